/- Texts of expressions: the walk through the printer. -/
import Derived.Test.YtbihckigennlhaaGreatDoorPc
import Derived.Test.YtbihckigennlhaaGreatDoorZa
import Derived.Test.YtbihckigennlhaaGreatDoorZf
import Derived.Test.YtbihckigennlhaaGreatDoorWi
import Derived.Test.YtbihckigennlhaaGreatDoorTm
import Derived.Test.YtbihckigennlhaaGreatDoorSxB
import Derived.Test.YtbihckigennlhaaGreatDoorRows
import Derived.Lib.LaidU8
import Derived.LaidLaws
import Derived.Shelf.Vars
import Derived.HandedShaped
set_option linter.unusedSimpArgs false
set_option linter.unusedVariables false
set_option maxRecDepth 100000
set_option maxHeartbeats 4000000
namespace Go.Proofs.YtbihckigennlhaaGreatDoor
open Go.Sx Go.Proofs
theorem LN(x:Ex):Pure Tryz.prog 128 [.agg x.row] (iv (aF x)):=by
 rw[Ex.cY x]
 refine W5.p fun σ=> ?_
 repeat'(first|exact .nil|refine .k0 ?_|refine .k1 ?_|refine .k2 ?_|refine .k6 ?_|refine .k7 ?_|refine .k9 ?_|(refine .cd ?_ ?_<;>(intro hc;first|exact kf hc (by assumption)|skip))|refine .r1 ?_ ?_|(refine .m1 ?_ ?_;intro b)|fail)
 all_goals(try simp only[BL]at *)
 all_goals(refine Sx.Fin.intro Zs (bi ?_);unfold aF;grind)
theorem atz(x:Ex)(h:j4 x.win):Pure Tryz.prog 127 [.agg x.row] (sv (sJ x.win)):=by
 have hw:0≤x.win.size∧x.win.size≤1099511627776:=by unfold j4 at h;omega
 have hz:=xp x.win.size (by omega)
 have hi:=xo hw.1
 rw[Ex.cY x]
 refine W4.p fun σ=> ?_
 repeat'(first|exact .nil|refine .k0 ?_|refine .k1 ?_|refine .k2 ?_|refine .k6 ?_|refine .k7 ?_|refine .k9 ?_|(refine .cd ?_ ?_<;>(intro hc;skip))|refine .r1 ?_ ?_|(refine .m1 ?_ ?_;intro b)|refine .an rfl (by intro aO;first|exact uC _ (by first|omega|fail)|exact kE _ rfl (Z9 rfl) (by simp only[fH,bz,Z0,Z8,Z2];omega)|fail) ?_ ?_|fail)
 all_goals(try simp only[BL]at *)
 any_goals((simp only[Z8,Z2,Z7,Z5,ZW,bN,bz,dh,Z0];omega))
 all_goals(refine Sx.Fin.intro Zs (bs ?_);simp[sJ,eg,gQ, *];done)
theorem aay(x:Ex)(h:jS x):Pure Tryz.prog 80 [.agg x.row] (sv (oA x)):=by
 have hv:lj x.val:=⟨h.1,h.2.1⟩
 have hk:=hv.kinds
 have hs:=E2 hv
 obtain⟨hl,hu,ho⟩:=A4 h.2.2.1
 have hl:x.unit.length≤4:=hl
 have hu:∀ f∈x.unit,gO f:=hu
 have ho:x.name.size≤24:=ho
 have hz:=x9 hu hl
 rw[Ex.cY x]
 refine XI.p fun σ=> ?_
 repeat'(first|exact .nil|refine .k0 ?_|refine .k1 ?_|refine .k2 ?_|refine .k5 ?_|refine .k7 ?_|refine .k9 ?_|(refine .cd ?_ ?_<;>(intro hc;skip))|refine .r1 ?_ ?_|(refine .m1 ?_ ?_;intro b)|refine .an rfl (by intro aO;first|exact Nd x.unit hu hl|exact TU x.val hv|exact kE _ rfl (Z9 rfl) (by simp only[fH,bz,Z0,Z8,Z2];omega)) ?_ ?_|fail)
 all_goals(try simp only[BL]at *)
 any_goals((simp only[Z8,Z2,Z7,Z5,ZW,bN,bz,dh,Z0];omega))
 all_goals(refine Sx.Fin.intro Zs (bs ?_);simp[oA,eg,gQ,nP, *];done)
theorem KX(x:Ex):Pure Tryz.prog 81 [.agg x.row] (sv x.name):=by
 rw[Ex.cY x]
 refine XJ.p fun σ=> ?_
 repeat'(first|exact .nil|refine .k0 ?_|refine .k1 ?_|refine .k2 ?_|refine .k7 ?_|refine .r1 ?_ ?_|(refine .m1 ?_ ?_;intro b)|fail)
 all_goals(try simp only[BL]at *)
 all_goals exact Sx.Fin.intro Zs rfl
structure Kids(x:Ex)(F:FuncId):Prop where
 t:∀ i,i<x.args.length→Pure Tryz.prog F [.agg (x.args.getD i default).row] (sv (tx x i))
 z:∀ i,i<x.args.length→(tx x i).size≤100000
theorem jk{x:Ex}{F:FuncId}(h:Kids x F){i:Nat}{r:Int}(hi:i<x.args.length):(iN x (tx x) i r).size≤100002:=by
 have:=h.z i hi
 have:= @jI x (tx x) i r
 omega
theorem jj(x:Ex)(h:Kids x 39)(i:Nat)(hi:i<x.args.length)(r:Int):Pure Tryz.prog 126 [.agg x.row,iv i,iv r] (sv (iN x (tx x) i r)):=by
 have hz:=h.z i hi
 rw[Ex.cY x]
 refine W3.p fun σ=> ?_
 repeat'(first|exact .nil|refine .k0 ?_|refine .k1 ?_|refine .k2 ?_|refine .k7 ?_|refine .k9 ?_|(refine .cd ?_ ?_<;>(intro hc;skip))|refine .r1 ?_ ?_|(refine .l1 ?_;intro b)|(refine .m1 ?_ ?_;intro b)|refine .t1 ?_ ?_ ?_|refine .an rfl (by intro aO;first|exact LN (x.args.getD i default)|exact h.t i hi|exact kE _ rfl (Z9 rfl) (by simp only[fH,bz,Z0,Z8,Z2];omega)) ?_ ?_|fail)
 try any_goals(exact Zo)
 all_goals(try simp only[BL]at *)
 any_goals((simp only[Z8,Z2,Z7,Z5,ZW,bN,bz,dh,Z0];omega))
 all_goals(refine Sx.Fin.intro Zs (bs ?_);first|(rw[iN,if_pos hc];simp only[par,eg,gQ];done)|(rw[iN,if_neg hc];done))
theorem qI(x:Ex)(T:Nat→ag)(i:Nat):iN x T i 0=T i:=if_neg (by have:=(LM (x.args.getD i default)).1;omega)
theorem vT(a:ag):(⟨#[]⟩:ag)++a=a:=qo (by simp)
theorem aaB(x:Ex)(h:Kids x 39)(hl:x.args.length=1)(hn:x.name.size≤24):Pure Tryz.prog 82 [.agg x.row] (sv (x.name++(⟨#[32,111,102,32,40]⟩++(tx x 0++⟨#[41]⟩)))):=by
 have hz:= @jk x _ h 0 0 (by omega)
 have h0:=qI x (tx x) 0
 rw[Ex.cY x]
 refine XK.p fun σ=> ?_
 repeat'(first|exact .nil|refine .k0 ?_|refine .k1 ?_|refine .k2 ?_|refine .k5 ?_|refine .k7 ?_|refine .r1 ?_ ?_|(refine .m1 ?_ ?_;intro b)|refine .an rfl (by intro aO;first|(refine(jj x h 0 (by omega) 0).wk ?_;(repeat' first|exact .row|exact .refl _|refine .cons ?_ ?_|refine .agg ?_|fail);done)|exact kE _ rfl (Z9 rfl) (by simp only[fH,bz,Z0,Z8,Z2,lr];omega)) ?_ ?_|fail)
 all_goals(try simp only[BL]at *)
 any_goals((simp only[Z8,Z2,Z7,Z5,ZW,bN,bz,dh,Z0];omega))
 all_goals(refine Sx.Fin.intro Zs (bs ?_);simp[eg,gQ, *];done)
theorem Rr(x:Ex)(h:Kids x 39)(hl:x.args.length=3):Pure Tryz.prog 86 [.agg x.row] (sv (rR x (tx x))):=by
 have hz:= @jk x _ h 0 0 (by omega)
 have ov:= @jk x _ h 1 0 (by omega)
 have rQ:= @jk x _ h 2 0 (by omega)
 have h0:=qI x (tx x) 0
 have h1:=qI x (tx x) 1
 have h2:=qI x (tx x) 2
 rw[Ex.cY x]
 refine XO.p fun σ=> ?_
 repeat'(first|exact .nil|refine .k0 ?_|refine .k1 ?_|refine .k2 ?_|refine .k5 ?_|refine .k7 ?_|refine .r1 ?_ ?_|(refine .m1 ?_ ?_;intro b)|refine .an rfl (by intro aO;first|(refine(jj x h 0 (by omega) 0).wk ?_;(repeat' first|exact .row|exact .refl _|refine .cons ?_ ?_|refine .agg ?_|fail);done)|(refine(jj x h 1 (by omega) 0).wk ?_;(repeat' first|exact .row|exact .refl _|refine .cons ?_ ?_|refine .agg ?_|fail);done)|(refine(jj x h 2 (by omega) 0).wk ?_;(repeat' first|exact .row|exact .refl _|refine .cons ?_ ?_|refine .agg ?_|fail);done)|exact kE _ rfl (Z9 rfl) (by simp only[fH,bz,Z0,Z8,Z2,lr];omega)) ?_ ?_|fail)
 all_goals(try simp only[BL]at *)
 any_goals((simp only[Z8,Z2,Z7,Z5,ZW,bN,bz,dh,Z0];omega))
 all_goals(refine Sx.Fin.intro Zs (bs ?_);simp[rR,eg,gQ, *];done)
theorem TB(x:Ex)(h:Kids x 39)(hl:x.args.length=2):Pure Tryz.prog 87 [.agg x.row] (sv (qN x (tx x))):=by
 have hz:= @jk x _ h 0 1 (by omega)
 have ov:= @jk x _ h 1 2 (by omega)
 rw[Ex.cY x]
 refine XP.p fun σ=> ?_
 repeat'(first|exact .nil|refine .k0 ?_|refine .k1 ?_|refine .k2 ?_|refine .k5 ?_|refine .k7 ?_|refine .r1 ?_ ?_|(refine .m1 ?_ ?_;intro b)|refine .an rfl (by intro aO;first|(refine(jj x h 0 (by omega) 1).wk ?_;(repeat' first|exact .row|exact .refl _|refine .cons ?_ ?_|refine .agg ?_|fail);done)|(refine(jj x h 1 (by omega) 2).wk ?_;(repeat' first|exact .row|exact .refl _|refine .cons ?_ ?_|refine .agg ?_|fail);done)|exact kE _ rfl (Z9 rfl) (by simp only[fH,bz,Z0,Z8,Z2,lr];omega)) ?_ ?_|fail)
 all_goals(try simp only[BL]at *)
 any_goals((simp only[Z8,Z2,Z7,Z5,ZW,bN,bz,dh,Z0];omega))
 all_goals(refine Sx.Fin.intro Zs (bs ?_);simp[qN,eg,gQ, *];done)
theorem asY(x:Ex)(h:Kids x 39)(hl:x.args.length=1):Pure Tryz.prog 84 [.agg x.row] (sv (sA x (tx x))):=by
 have hz:= @jk x _ h 0 0 (by omega)
 have ov:= @jk x _ h 0 8 (by omega)
 have rQ:= @jk x _ h 0 4 (by omega)
 have h0:=qI x (tx x) 0
 rw[Ex.cY x]
 refine XM.p fun σ=> ?_
 repeat'(first|exact .nil|refine .k0 ?_|refine .k1 ?_|refine .k2 ?_|refine .k6 ?_|refine .k7 ?_|refine .k9 ?_|(refine .cd ?_ ?_<;>(intro hc;skip))|refine .r1 ?_ ?_|(refine .m1 ?_ ?_;intro b)|refine .an rfl (by intro aO;first|(refine(jj x h 0 (by omega) 0).wk ?_;(repeat' first|exact .row|exact .refl _|refine .cons ?_ ?_|refine .agg ?_|fail);done)|(refine(jj x h 0 (by omega) 8).wk ?_;(repeat' first|exact .row|exact .refl _|refine .cons ?_ ?_|refine .agg ?_|fail);done)|(refine(jj x h 0 (by omega) 4).wk ?_;(repeat' first|exact .row|exact .refl _|refine .cons ?_ ?_|refine .agg ?_|fail);done)|exact kE _ rfl (Z9 rfl) (by simp only[fH,bz,Z0,Z8,Z2,lr];omega)) ?_ ?_|fail)
 all_goals(try simp only[BL]at *)
 any_goals((simp only[Z8,Z2,Z7,Z5,ZW,bN,bz,dh,Z0];omega))
 all_goals(refine Sx.Fin.intro Zs (bs ?_);simp[sA,eg,gQ, *];done)
theorem Rb(x:Ex)(h:Kids x 39)(hl:x.args.length=2)(ho:x.op.size≤8):Pure Tryz.prog 85 [.agg x.row] (sv (qJ x (tx x))):=by
 have hz:= @jk x _ h 0 (aF x) (by omega)
 have ov:= @jk x _ h 0 (IntKind.i64.wrap (aF x+1)) (by omega)
 have rQ:= @jk x _ h 1 (IntKind.i64.wrap (aF x+1)) (by omega)
 have hr:=LM x
 rw[Ex.cY x]
 refine XN.p fun σ=> ?_
 repeat'(first|exact .nil|refine .k0 ?_|refine .k1 ?_|refine .k2 ?_|refine .k5 ?_|refine .k7 ?_|refine .k9 ?_|(refine .cd ?_ ?_<;>(intro hc;skip))|refine .r1 ?_ ?_|(refine .m1 ?_ ?_;intro b)|refine .an rfl (by intro aO;first|(refine(LN x).wk ?_;(repeat' first|exact .row|exact .refl _|refine .cons ?_ ?_|refine .agg ?_|fail);done)|(refine(jj x h 0 (by omega) (aF x)).wk ?_;(repeat' first|exact .row|exact .refl _|refine .cons ?_ ?_|refine .agg ?_|fail);done)|(refine(jj x h 0 (by omega) (IntKind.i64.wrap (aF x+1))).wk ?_;(repeat' first|exact .row|exact .refl _|refine .cons ?_ ?_|refine .agg ?_|fail);done)|(refine(jj x h 1 (by omega) (IntKind.i64.wrap (aF x+1))).wk ?_;(repeat' first|exact .row|exact .refl _|refine .cons ?_ ?_|refine .agg ?_|fail);done)|exact kE _ rfl (Z9 rfl) (by simp only[fH,bz,Z0,Z8,Z2,lr];omega)) ?_ ?_|fail)
 all_goals(try simp only[BL]at *)
 any_goals((simp only[Z8,Z2,Z7,Z5,ZW,bN,bz,dh,Z0];omega))
 all_goals(refine Sx.Fin.intro Zs (bs ?_);have hw:IntKind.i64.wrap (aF x+1)=aF x+1:=bw (by omega)
           rw[hw];unfold qJ iE;first|(simp only[hc,eg,gQ,Ze,ZA];done)|(simp only[hc,eg,gQ,Ze,ZA];rfl))
theorem asT{y:Ex}{q:Bool}(hf:form q y=true):y=du↔y.kind=1∧y.val.kind=1∧y.val.n=1∧y.val.s=⟨#[]⟩:=by
 constructor
 ·rintro rfl;exact⟨rfl,rfl,rfl,rfl⟩
 ·rintro⟨h1,h2,h3,h4⟩
  refine IP hf ?_
  have hb:=(mr.of hf).nb
  unfold eF at hb
  rw[if_pos h1]at hb
  obtain⟨e1,e2,e3,e4⟩:=hb
  have hu:y.unit=[]∧y.name=⟨#[]⟩:=by
   unfold gY at e3
   split at e3
   ·omega
   ·rename_i h
    simp only[Num]at h
    constructor
    ·exact Zd.1 fun h'=>h (.inr (.inr (.inl ⟨h',by omega⟩)))
    ·exact Zd.1 fun h'=>h (.inr (.inr (.inr (.inr ⟨by omega,h'⟩))))
  obtain⟨f1,f2,f3,f4,f5,f6,f7,f8⟩:=e4
  exact⟨h1,f2,hu.2,f4,E3.2 ⟨h2,h3,h4⟩,hu.1,f7,f8⟩
theorem QM(x:Ex)(h:Kids x 39)(hl:x.args.length=2)(ho:x.op.size≤8)(ht:x.table.size≤24)(hw:j4 x.win)(hp:0≤x.param∧x.param≤1073741824)(hf:form true (x.args.getD 1 default)=true):Pure Tryz.prog 83 [.agg x.row] (sv (fR x (tx x))):=by
 have hz:= @jk x _ h 0 0 (by omega)
 have ov:= @jk x _ h 1 0 (by omega)
 have h0:=qI x (tx x) 0
 have h1:=qI x (tx x) 1
 have hi:=xo hp.1
 have hz3:=xp x.param (by omega)
 have hz4:=Ff hw
 rw[Ex.cY x]
 refine XL.p fun σ=> ?_
 repeat'(first|exact .nil|refine .k0 ?_|refine .k1 ?_|refine .k2 ?_|refine .k4 ?_|refine .k7 ?_|refine .k9 ?_|(refine .cd ?_ ?_<;>(intro hc;skip))|refine .r1 ?_ ?_|(refine .l1 ?_;intro b)|(refine .m1 ?_ ?_;intro b)|refine .t1 ?_ ?_ ?_|refine .an rfl (by intro aO;first|(refine(atz x hw).wk ?_;(repeat' first|exact .row|exact .refl _|refine .cons ?_ ?_|refine .agg ?_|fail);done)|exact uC _ (by first|omega|fail)|(refine(jj x h 0 (by omega) 0).wk ?_;(repeat' first|exact .row|exact .refl _|refine .cons ?_ ?_|refine .agg ?_|fail);done)|(refine(jj x h 1 (by omega) 0).wk ?_;(repeat' first|exact .row|exact .refl _|refine .cons ?_ ?_|refine .agg ?_|fail);done)|exact kE _ rfl (Z9 rfl) (by simp only[fH,bz,Z0,Z8,Z2,lr];omega)) ?_ ?_|fail)
 try any_goals(exact Zo)
 all_goals(try simp only[BL]at *)
 any_goals((simp only[Z8,Z2,Z7,Z5,ZW,bN,bz,dh,Z0];omega))
 try any_goals(simp only[lr,fH,bz,Z0,Z8,Z2];omega)
 all_goals(refine Sx.Fin.intro Zs (bs ?_);have hy:=asT hf;unfold fR db;repeat' split
           all_goals first|(exfalso;grind)|(simp only[eg,gQ,vT,nP,h0,h1,hi];done))
theorem asG (x:Ex) (r:ag) (h:(x.kind=1∧Pure Tryz.prog 80 [.agg x.row] (sv r))
  ∨(x.kind=2∧Pure Tryz.prog 81 [.agg x.row] (sv r))∨(x.kind=3∧Pure Tryz.prog 81 [.agg x.row] (sv r))
  ∨(x.kind=4∧Pure Tryz.prog 82 [.agg x.row] (sv r))∨(x.kind=5∧Pure Tryz.prog 83 [.agg x.row] (sv r))
  ∨(x.kind=6∧Pure Tryz.prog 84 [.agg x.row] (sv r))∨(x.kind=7∧Pure Tryz.prog 85 [.agg x.row] (sv r))
  ∨(x.kind=8∧Pure Tryz.prog 86 [.agg x.row] (sv r))∨(x.kind=9∧Pure Tryz.prog 87 [.agg x.row] (sv r))):
  Pure Tryz.prog 39 [.agg x.row] (sv r):=by
 obtain⟨k,o,nm,t,v,u,p,w,ks⟩:=x
 simp only[Ex.kind]at h
 rcases h with⟨rfl,hC⟩|⟨rfl,hC⟩|⟨rfl,hC⟩|⟨rfl,hC⟩|⟨rfl,hC⟩|⟨rfl,hC⟩|⟨rfl,hC⟩|⟨rfl,hC⟩|⟨rfl,hC⟩
 all_goals rw[Ex.cY]
 all_goals rw[Ex.cY]at hC
 all_goals refine Xy.p fun σ=> ?_
 repeat'(first|exact .nil|refine .k0 ?_|refine .k1 ?_|refine .k2 ?_|refine .k7 ?_|refine .r1 ?_ ?_|(refine .m1 ?_ ?_;intro b)|refine .an rfl (by intro aO;(refine hC.wk ?_;(repeat' first|exact .refl _|fail);done)) ?_ ?_|(refine .l3 ?_;intro b)|refine .r6 ?_ ?_|refine .r7 ?_ ?_|fail)
 all_goals(try simp only[BL]at *)
 all_goals exact Sx.Fin.intro Zs rfl
theorem aab{x:Ex}{ins:Bool}(h:eF x ins):1≤x.kind∧x.kind≤9:=by
 unfold eF at h
 repeat' split at h
 all_goals first|omega|exact h.elim
theorem parts{x:Ex}{ins:Bool}(h:mr x ins):
  (x.kind=1→jS x∧x.args.length=0)∧(x.kind=2∨x.kind=3→jT x∧x.args.length=0)∧(x.kind=4→jT x∧x.args.length=1)∧(x.kind=5→nO x∧x.args.length=2)
  ∧(x.kind=6→x.args.length=1∧∃ y∈x8,x.op=y)∧(x.kind=7→x.args.length=2∧∃ y∈ke,x.op=y)∧(x.kind=8→x.args.length=3)∧(x.kind=9→x.args.length=2):=by
 have hb:=h.nb
 have hn:=h.nn
 unfold eF at hb
 unfold jU at hn
 refine⟨fun e=> ?_,fun e=> ?_,fun e=> ?_,fun e=> ?_,fun e=> ?_,fun e=> ?_,fun e=> ?_,fun e=> ?_⟩
 all_goals grind
theorem abb{x:Ex}(h:l7 x):0≤x.param∧x.param≤1073741824:=by
 unfold l7 at h
 repeat' split at h
 all_goals omega
theorem KZ(x:Ex):∀ ins,form ins x=true→x.size≤100→Pure Tryz.prog 39 [.agg x.row] (sv (text x)):=by
 induction x using Ex.ind with
 |h x ih=>
 intro ins hf hs
 have h:=mr.of hf
 have hk:Kids x 39:=by
  constructor
  ·intro i hi
   have:=Ex.xU (ei hi)
   rw[x7 hi]
   exact ih _ (ei hi) _ (h.sub _ (ei hi)) (by omega)
  ·intro i hi
   have:=Ex.xU (ei hi)
   rw[x7 hi]
   exact YJ (asH _ _ (h.sub _ (ei hi))) (by omega)
 obtain⟨p1,p2,p4,p5,p6,p7,p8,p9⟩:=parts h
 have hr:=aab h.nb
 refine asG x (text x) ?_
 rw[AY]
 unfold vk
 have:x.kind=1∨x.kind=2∨x.kind=3∨x.kind=4∨x.kind=5∨x.kind=6∨x.kind=7∨x.kind=8∨x.kind=9:=by omega
 rcases this with e|e|e|e|e|e|e|e|e
 ·rw[if_pos e];exact .inl ⟨e,aay x (p1 e).1⟩
 ·simp only[e,Int.reduceEq,ZA];exact .inr (.inl ⟨trivial,KX x⟩)
 ·simp only[e,Int.reduceEq,ZA];exact .inr (.inr (.inl ⟨trivial,KX x⟩))
 ·simp only[e,Int.reduceEq,ZA,Ze];exact .inr (.inr (.inr (.inl ⟨trivial,aaB x hk (p4 e).2 (p4 e).1.1.1.2.1⟩)))
 ·have hA:=(p5 e).1
  obtain⟨⟨y,hy,ho⟩,ht,hw,hp, -⟩:=hA
  have e1:=BO y hy
  rw[← ho]at e1
  have hl:=(p5 e).2
  have h1:=h.sub _ (ei (i:=1) (by omega))
  rw[e]at h1
  simp only[e,Int.reduceEq,ZA,Ze]
  exact .inr (.inr (.inr (.inr (.inl ⟨trivial,QM x hk hl e1 ht.1.2.1 hw (abb hp) (by simpa using h1)⟩))))
 ·simp only[e,Int.reduceEq,ZA,Ze];exact .inr (.inr (.inr (.inr (.inr (.inl ⟨trivial,asY x hk (p6 e).1⟩)))))
 ·obtain⟨hl,y,hy,ho⟩:=p7 e
  have e1:=BV y hy
  rw[← ho]at e1
  simp only[e,Int.reduceEq,ZA,Ze]
  exact .inr (.inr (.inr (.inr (.inr (.inr (.inl ⟨trivial,Rb x hk hl e1⟩))))))
 ·simp only[e,Int.reduceEq,ZA,Ze];exact .inr (.inr (.inr (.inr (.inr (.inr (.inr (.inl ⟨trivial,Rr x hk (p8 e)⟩)))))))
 ·simp only[e,Int.reduceEq,ZA,Ze];exact .inr (.inr (.inr (.inr (.inr (.inr (.inr (.inr ⟨trivial,TB x hk (p9 e)⟩)))))))
theorem xT{x:Ex}(h:shape x=0):form false x=true:=by
 unfold shape at h
 split at h
 ·omega
 ·split at h
  ·assumption
  ·omega
def nZ(x:Ex):ag:=if shape x=0 then text x else⟨#[]⟩
theorem qK{a b:ag}{n m:Int}(h:a=b)(h2:n=m):AV.aL [.v (.string a),.v (.int .i64 n)]= .aL [sv b,iv m]:=by rw[h,h2]
theorem Ii(x:Ex)(hs:x.size≤100):Pure Tryz.prog 10 [.agg x.row] (.aL [sv (nZ x),iv (shape x)]):=by
 rw[Ex.cY x]
 refine Ks.p fun σ=> ?_
 repeat'(first|exact .nil|refine .k0 ?_|refine .k1 ?_|refine .k2 ?_|refine .k7 ?_|refine .k9 ?_|(refine .cd ?_ ?_<;>(intro hc;skip))|refine .r1 ?_ ?_|(refine .m1 ?_ ?_;intro b)|refine .an rfl (by intro aO;first|(refine(ED x (by omega)).wk ?_;(repeat' first|exact .row|exact .refl _|refine .cons ?_ ?_|refine .agg ?_|fail);done)|(refine(KZ x false (xT (by(simp only[BL]at *;omega))) hs).wk ?_;(repeat' first|exact .row|exact .refl _|refine .cons ?_ ?_|refine .agg ?_|fail);done)|fail) ?_ ?_|fail)
 all_goals(try simp only[BL]at *)
 all_goals(refine Sx.Fin.intro Zs (qK ?_ ?_)<;>first|rfl|exact(if_neg hc).symm|exact(if_pos hc).symm|exact hc.symm)
theorem M7{t:Ty}(h:gY t=0):(∀ f∈t.unit,gO f)∧t.unit.length≤4∧t.of.size≤100:=by
 obtain⟨h1,h2,h3⟩:=A4 h
 exact⟨h2,h1,by omega⟩
theorem abC(x:Ex)(hs:x.size≤100)(s:ag):Pure Tryz.prog 31 [.agg x.row,sv s] (.v (.bool (decide (nZ x=s∧shape x=0)))):=by
 rw[Ex.cY x]
 refine Xt.p fun σ=> ?_
 repeat'(first|exact .nil|refine .k0 ?_|refine .k1 ?_|refine .k2 ?_|refine .k4 ?_|refine .k7 ?_|refine .r1 ?_ ?_|(refine .m1 ?_ ?_;intro b)|refine .an rfl (by intro aO;(refine(Ii x hs).wk ?_;(repeat' first|exact .row|exact .refl _|refine .cons ?_ ?_|refine .agg ?_|fail);done)) ?_ ?_|fail)
 all_goals(try simp only[BL]at *)
 all_goals(refine Sx.Fin.intro Zs (bd ?_);grind)
def uM(s:ag):Ex:=⟨3,⟨#[]⟩,s,⟨#[]⟩,⟨0,0,⟨#[]⟩⟩,[],0,⟨0,0⟩,[]⟩
def pk(s:ag):Ex:=⟨2,⟨#[]⟩,s,⟨#[]⟩,⟨0,0,⟨#[]⟩⟩,[],0,⟨0,0⟩,[]⟩
def M4(o:ag)(a b:Ex):Ex:=⟨7,o,⟨#[]⟩,⟨#[]⟩,⟨0,0,⟨#[]⟩⟩,[],0,⟨0,0⟩,[a,b]⟩
def Ld(o:ag)(a:Ex):Ex:=⟨6,o,⟨#[]⟩,⟨#[]⟩,⟨0,0,⟨#[]⟩⟩,[],0,⟨0,0⟩,[a]⟩
theorem aaI(s:ag):Pure Tryz.prog 30 [sv s] (.agg (uM s).row):=by
 refine Xr.p fun σ=> ?_
 repeat'(first|exact .nil|refine .k0 ?_|refine .k1 ?_|refine .k2 ?_|refine .k7 ?_|refine .r1 ?_ ?_|(refine .l1 ?_;intro b)|fail)
 all_goals(try simp only[BL]at *)
 ·refine Sx.Fin.wk Zs (Wk.agg ?_)
  show bD _ (uM s).lay
  unfold Ex.lay
  repeat' first|exact .refl _|exact .nil|refine .cons ?_ ?_|fail
theorem TG(s:ag):Pure Tryz.prog 35 [sv s] (.agg (pk s).row):=by
 refine Xx.p fun σ=> ?_
 repeat'(first|exact .nil|refine .k0 ?_|refine .k1 ?_|refine .k2 ?_|refine .k7 ?_|refine .r1 ?_ ?_|(refine .l1 ?_;intro b)|fail)
 all_goals(try simp only[BL]at *)
 ·refine Sx.Fin.wk Zs (Wk.agg ?_)
  show bD _ (pk s).lay
  unfold Ex.lay
  repeat' first|exact .refl _|exact .nil|refine .cons ?_ ?_|fail
theorem Gi{n:Nat}{rows rows':List (List AV)}(h:rows=rows'):Wk (.sl true n rows) (.sl false n rows'):=h ▸ Wk.sl
theorem M5(o:ag)(y z:Ex):Pure Tryz.prog 32 [sv o,.agg y.row,.agg z.row] (.agg (M4 o y z).row):=by
 have e:[y.lay,z.lay]=List.map Ex.row [y,z]:=by show _=[y.row,z.row];rw[Ex.cY y,Ex.cY z];rfl
 rw[Ex.cY y,Ex.cY z,Ex.cY (M4 o y z)]
 refine Xu.p fun σ=> ?_
 repeat'(first|exact .nil|refine .k0 ?_|refine .k1 ?_|refine .k2 ?_|refine .k7 ?_|refine .r1 ?_ ?_|(refine .l1 ?_;intro b)|(refine .m1 ?_ ?_;intro b)|fail)
 all_goals(try simp only[BL]at *)
 any_goals exact Z9 rfl
 ·refine Sx.Fin.wk Zs (Wk.agg ?_)
  repeat'(first|exact Wk.refl _|exact bD.nil|exact Gi e|refine bD.cons ?_ ?_|exact Wk.nil)
theorem aa5(o:ag)(y:Ex):Pure Tryz.prog 33 [sv o,.agg y.row] (.agg (Ld o y).row):=by
 have e:[y.lay]=List.map Ex.row [y]:=by show _=[y.row];rw[Ex.cY y];rfl
 rw[Ex.cY y,Ex.cY (Ld o y)]
 refine Xv.p fun σ=> ?_
 repeat'(first|exact .nil|refine .k0 ?_|refine .k1 ?_|refine .k2 ?_|refine .k7 ?_|refine .r1 ?_ ?_|(refine .l1 ?_;intro b)|(refine .m1 ?_ ?_;intro b)|fail)
 all_goals(try simp only[BL]at *)
 any_goals exact Z9 rfl
 ·refine Sx.Fin.wk Zs (Wk.agg ?_)
  repeat'(first|exact Wk.refl _|exact bD.nil|exact Gi e|refine bD.cons ?_ ?_|exact Wk.nil)
end Go.Proofs.YtbihckigennlhaaGreatDoor
namespace Go.Sx
structure At(P:Program)[Glob P](f:FuncId)(xs:List AV)(r:AV)(σ:Store):Prop where
 sp:Spec P f xs σ fun r' σ'=>r'= .ret r∧σ'=σ
theorem At.wk{P:Program}[Glob P]{f:FuncId}{xs bs:List AV}{r:AV}{σ:Store}(h:At P f bs r σ)(hw:bD xs bs):At P f xs r σ:=
 ⟨fun M w0 w cs hI hR=>h.sp M w0 w cs hI (hw.sound hR)⟩
theorem Hs{P:Program}[Glob P]{f:FuncId}{xs:List AV}{σ:Store}{K:AV→Store→Prop}{E:List PanicEntry→Store→Prop}{r:AV}(h:At P f xs r σ)(k:K r σ):oX P f xs σ K E:=
 ⟨_,h.sp,fun _ _ ⟨e,e'⟩=>by cases e;subst e';exact k,fun _ _ ⟨e,_⟩=>by cases e⟩
theorem At.cN{P:Program}[Glob P][jh P]{f:FuncId}{fn:Func}{fc:FC}{xs:List AV}{r:AV}{σ:Store}{a:AC}(cfg:Nat→Nat)(hf:P.funcs[f]? =some fn)(hc:bZ P fn=some fc)(ha:fc.code=a.erase)(hlen:xs.length≤fc.N)
  (h:WK P fc.N cfg (kN fc.res r σ) a [] (iM 0 xs) σ):At P f xs r σ:=by
 have h1:=h.h.h
 rw[← ha]at h1
 refine⟨?_⟩
 have:=Spec.intro (Q:=fun r' σ'=>∃ x,r'= .ret x∧Wk x r∧Sub σ σ') hf hc hlen (h1.mono (fun e rg σ' hq=>by
  cases e with
  |normal=>obtain⟨x,h1,h2,h3⟩:=hq;exact⟨x,h1,x,rfl,h2,h3⟩
  |ret=>obtain⟨x,h1,h2,h3⟩:=hq;exact⟨x,h1,x,rfl,h2,h3⟩
  |_=>exact hq.elim))
 refine this.weak ?_
 rintro r' σ' ⟨x,rfl,h2,h3⟩
 exact⟨.ret r,σ,⟨rfl,rfl⟩,h3,h2⟩
section
variable {P:Program}[Glob P]{cfg:Nat→Nat}{K:ae→Store→Prop}{E:List PanicEntry→Store→Prop}{σ:Store}{l:List CI}{d:Nat}{v:AV}{xr:XR}{ps:List Prop}{g:Option (Nat×Bool)}{og:Option Bool}{xs:List AV}{args:List Operand}
theorem Ga{f:FuncId}{r:AV}(h:ay xr g args=some (og,xs,ps))(hp:og.getD true=true→At P f xs r σ)(al:OB ps)(k:VX P cfg l K E (bE og d r xr) σ):VX P cfg (⟨some d,.call f args,g⟩::l) K E xr σ:=by
 obtain⟨hc,he⟩:=bY h
 refine gP hc (fun hg=> ?_) (fun hg=> ?_)
 ·simp only[aj,he al hg]
  refine Hs (hp hg) ?_
  rw[← eH hg];exact k.h
 ·rw[← eG hg (v:=r)];exact k.h
theorem OO{f:FuncId}{r fv:AV}{fo:Operand}{a c:Array Value}(h:ay xr g (fo::args)=some (og,fv::xs,ps))(hf:tJ fv=some (f,a,c))(bI:gx P f=true)(hp:og.getD true=true→At P f (a.toList.map .v++xs++c.toList.map .v) r σ)(al:OB ps)(k:VX P cfg l K E (bE og d r xr) σ):
  VX P cfg (⟨some d,.dp fo args,g⟩::l) K E xr σ:=by
 obtain⟨hc,he⟩:=bY h
 refine gP hc (fun hg=> ?_) (fun hg=> ?_)
 ·have:=he al hg
  simp only[aQ,ZY]at this
  simp only[aj,this.1,this.2,yT hf]
  refine⟨bI,Hs (hp hg) ?_⟩
  rw[← eH hg];exact k.h
 ·rw[← eG hg (v:=r)];exact k.h
end
theorem Wk.ptr(t b o:Nat):Wk (.v (.pointer (some ⟨b,o,none⟩))) (.lp t b o):=fun M x h=>by
 obtain rfl:=h.ax
 exact .lp t b o
end Go.Sx
namespace Go.Proofs.YtbihckigennlhaaGreatDoor
open Go.Sx Go.Proofs
theorem ar0(x f:dP)(b:Nat)(τ:Store):At Tryz.prog 118 [.agg x.cells,.lp 4 b 0] (.v (.bool (decide (x.name=f.name)))) ((4,b,cp.cells f.cells)::τ):=by
 refine At.cN (fun _=>0) Tryz.func118 RD SV (Z9 rfl) ?_
 repeat'(first|exact .nil|refine .k0 ?_|refine .k1 ?_|refine .k2 ?_|refine .k7 ?_|refine .r1 ?_ ?_|(refine .m1 ?_ ?_;intro b)|fail)
 all_goals(try simp only[BL]at *)
 ·exact Sx.Fin.intro Zs rfl
theorem WE(fs:List dP)(f:dP)(b:Nat)(τ:Store):At Tryz.prog 162 [.sl false 4 (fs.map dP.cells),.v (.func (.func 118) #[] #[.pointer (some ⟨b,0,none⟩)])] (iv (firstIdx (fun x=>decide (x.name=f.name)) fs 0)) ((4,b,cp.cells f.cells)::τ):=by
 refine At.cN (fun _=>0) Tryz.func162 RQ S6 (Z9 rfl) ?_
 repeat'(first|exact .nil|refine .k0 ?_|refine .k1 ?_|refine .k2 ?_|refine .k6 ?_|refine .r1 ?_ ?_|(refine .m2 ?_ ?_;intro hlen)|fail)
 all_goals(try simp only[BL]at *)
 refine dU (fun n rg σ'=>∃ i:Nat,i≤fs.length∧n=fs.length-i∧(∀ j,j<i→¬(fs.getD j default).name=f.name)∧σ'=(4,b,cp.cells f.cells)::τ∧rg=[(0,.sl false 4 (fs.map dP.cells)),(1,.v (.func (.func 118) #[] #[.pointer (some ⟨b,0,none⟩)])),(7,iv fs.length),(8,iv i)]) fs.length rfl ⟨_,_,Zr,Zs,0,ZF _,rfl,fun j hj=>absurd hj (by omega),rfl,rfl⟩ ?_
 rintro n _ _ ⟨i,hi,hn,hp,rfl,rfl⟩
 repeat'(first|exact .nil|refine .k0 ?_|refine .k1 ?_|refine .k2 ?_|refine .k6 ?_|refine .k7 ?_|refine .k8 ?_|refine .k9 ?_|(refine .cd ?_ ?_<;>(intro hc;skip))|refine .r1 ?_ ?_|refine .t1 ?_ ?_ ?_|fail)
 try any_goals(exact Zo)
 all_goals(try simp only[BL]at *)
 refine OO rfl rfl (by rfl) (fun _=>(ar0 (fs.getD i default) f b τ).wk (bD.cons (Wk.refl _) (bD.cons (Wk.ptr _ _ _) bD.nil))) OB.nil ?_
 repeat'(first|exact .nil|refine .k0 ?_|refine .k1 ?_|refine .k2 ?_|refine .k7 ?_|refine .k9 ?_|(refine .cd ?_ ?_<;>(intro hc;skip))|refine .r1 ?_ ?_|fail)
 all_goals(try simp only[BL]at *)
 ·rw[yQ (p:=fun x:dP=>decide (x.name=f.name)) (l:=fs) (k:=0) (i:=i) (fun j hj=>Zu (hp j hj)) (by omega) (Zn hc),Y8]
  exact Zw
 ·refine⟨fs.length-(i+1),by omega,_,_,Zr,Zs,i+1,by omega,rfl,kh hp hc,rfl,by rw[fL (by omega) hlen]⟩
 ·rw[yS (fun y hy=>Zu (AX (p:=fun y:dP=>¬y.name=f.name) (fun j hj=>hp j (by omega)) y hy))]
  exact Zw
theorem Sd(fs:List dP)(f:dP)(b:Nat)(τ:Store):At Tryz.prog 117 [.sl false 4 (fs.map dP.cells),.v (.func (.func 118) #[] #[.pointer (some ⟨b,0,none⟩)])] (.v (.bool (decide (∃ x∈fs,x.name=f.name)))) ((4,b,cp.cells f.cells)::τ):=by
 refine At.cN (fun _=>0) Tryz.func117 RB SU (Z9 rfl) ?_
 repeat'(first|exact .nil|refine .k0 ?_|refine .k1 ?_|refine .k2 ?_|refine .r1 ?_ ?_|fail)
 all_goals(try simp only[BL]at *)
 refine Ga rfl (fun _=>WE fs f b τ) OB.nil ?_
 repeat'(first|exact .nil|refine .k0 ?_|refine .k1 ?_|refine .k7 ?_|refine .r1 ?_ ?_|fail)
 all_goals(try simp only[BL]at *)
 ·refine Sx.Fin.intro Zs (bd ?_)
  rw[ZG,yR]
  simp only[ZG]
def po(prev:List dP)(f:dP):Int:=if¬Name f.name then 3 else if∃ x∈prev,x.name=f.name then 121 else gY f.type
def ko:List dP→List dP→Int
 |_,[]=>0
 |prev,f::l=>if po prev f=0 then ko (prev++[f]) l else po prev f
def kP(t:fQ):Int:=
 if¬(Name t.name∧Name t.nX∧0≤t.keep∧t.keep≤1099511627776)then 3 else if t.fields.length>8 then 2 else ko [] t.fields
theorem TN{u:List dP}{i:Nat}(hi:i<u.length)(h:po (u.take i) (u.getD i default)=0):ko (u.take i) (u.drop i)=ko (u.take (i+1)) (u.drop (i+1)):=by
 rw[yN hi,ko,if_pos h,EP hi]
theorem Cp{u:List dP}{i:Nat}{e:Int}(hi:i<u.length)(h:po (u.take i) (u.getD i default)=e)(he:e≠0):ko (u.take i) (u.drop i)=e:=by
 rw[yN hi,ko,if_neg (by rw[h];exact he),h]
theorem asA(t:fQ):Pure Tryz.prog 68 [.agg t.cells] (iv (kP t)):=by
 refine XG.p fun σ=> ?_
 repeat'(first|exact .nil|refine .k0 ?_|refine .k1 ?_|refine .k2 ?_|refine .k4 ?_|refine .k6 ?_|refine .k7 ?_|refine .k9 ?_|(refine .cd ?_ ?_<;>(intro hc;skip))|refine .r1 ?_ ?_|(refine .m1 ?_ ?_;intro b)|(refine .m2 ?_ ?_;intro hlen)|refine .an rfl (by intro aO;first|exact uN _|fail) ?_ ?_|fail)
 try any_goals(exact Zo)
 all_goals(try simp only[BL]at *)
 ·refine Sx.Fin.intro Zs (bi ?_)
  unfold kP;rw[if_pos (by grind)]
 ·refine Sx.Fin.intro Zs (bi ?_)
  unfold kP;rw[if_neg (by grind),if_pos (by omega)]
 rename_i h1 h2
 have hu:kP t=ko [] t.fields:=by unfold kP;rw[if_neg (by grind),if_neg (by omega)]
 refine dU (fun n rg σ'=>∃ (i:Nat),i≤t.fields.length∧n=t.fields.length-i∧kP t=ko (t.fields.take i) (t.fields.drop i)∧σ'=(1,b,cp.cells t.cells)::σ∧rg=[(1,.lp 1 b 0),(31,.sl false 4 (t.fields.map dP.cells)),(32,iv t.fields.length),(33,iv i)]) t.fields.length rfl ⟨_,_,Zr,Zs,0,ZF _,rfl,hu,rfl,rfl⟩ ?_
 rintro n _ _ ⟨i,hi,hn,hp,rfl,rfl⟩
 repeat'(first|exact .nil|refine .k0 ?_|refine .k1 ?_|refine .k2 ?_|refine .k6 ?_|refine .k7 ?_|refine .k8 ?_|refine .k9 ?_|(refine .cd ?_ ?_<;>(intro hc;skip))|refine .r1 ?_ ?_|(refine .l1 ?_;intro b)|refine .t1 ?_ ?_ ?_|refine .t2 ?_ ?_ ?_|refine .an rfl (by intro aO;first|exact uN _|fail) ?_ ?_|fail)
 try any_goals(exact Zo)
 all_goals(try simp only[BL]at *)
 ·rw[hp,Cp (e:=3) (by omega) (if_pos hc) (by decide)]
  exact Zw
 refine Ga rfl (fun _=>Sd (t.fields.take i) (t.fields.getD i default) _ _) OB.nil ?_
 repeat'(first|exact .nil|refine .k0 ?_|refine .k1 ?_|refine .k2 ?_|refine .k7 ?_|refine .k9 ?_|(refine .cd ?_ ?_<;>(intro hc;skip))|refine .r1 ?_ ?_|refine .an rfl (by intro aO;exact M9 (t.fields.getD i default).type) ?_ ?_|fail)
 all_goals(try simp only[BL]at *)
 ·rw[hp,Cp (e:=121) (by omega) (by unfold po;rw[if_neg (fun h=>h ‹_›),if_pos hc]) (by decide)]
  exact Zw
 ·rw[hp,Cp (by omega) (by unfold po;rw[if_neg (fun h=>h ‹_›),if_neg ‹_›]) hc]
  exact Zw
 ·refine⟨t.fields.length-(i+1),by omega,_,_,Zr,Zs,i+1,by omega,rfl,?_,rfl,by rw[fL (n:=t.fields.length) (by omega) (by assumption)]⟩
  rw[hp,TN (by omega) (by unfold po;rw[if_neg (fun h=>h ‹_›),if_neg ‹_›];exact hc)]
 ·rw[hp,List.drop_eq_nil_of_le (by omega),ko]
  exact Zw
def jo(f:dP):ag:=⟨#[32]⟩++(f.name++(⟨#[58,32]⟩++sw f.type))
def sr(t:fQ):ag:=⟨#[116,97,98,108,101,32]⟩++(t.name++(⟨#[32,111,102,32]⟩++(t.nX++(⟨#[32,123]⟩++(rS (t.fields.map jo) ⟨#[44]⟩++(⟨#[32,125]⟩++((if t.keep=0 then⟨#[]⟩else⟨#[32,107,101,101,112,32]⟩++iD t.keep)++⟨#[59]⟩)))))))
theorem IK:∀ (l p:List dP),ko p l=0→∀ f∈l,Name f.name∧gY f.type=0
 |[],_,_,f,hf=>absurd hf (by simp)
 |g::l,p,h,f,hf=>by
  rw[ko]at h
  split at h
  ·rename_i h0
   rcases ZU.1 hf with rfl|hf
   ·unfold po at h0
    split at h0
    ·omega
    ·rename_i hn
     split at h0
     ·omega
     ·exact⟨Zd.1 hn,h0⟩
   ·exact IK l _ h f hf
  ·rename_i h0;exact absurd h h0
structure s8(t:fQ):Prop where
 n:t.name.size≤24
 e:t.nX.size≤24
 k:0≤t.keep∧t.keep≤1099511627776
 l:t.fields.length≤8
 f:∀ f∈t.fields,Name f.name∧gY f.type=0
theorem s8.of{t:fQ}(h:kP t=0):s8 t:=by
 unfold kP at h
 split at h
 ·omega
 ·rename_i h1
  have h1:=Zd.1 h1
  split at h
  ·omega
  ·exact⟨h1.1.1.2.1,h1.2.1.1.2.1,h1.2.2,by omega,IK _ _ h⟩
theorem M8{t:Ty}(h:gY t=0):(sw t).size≤220:=by
 obtain⟨hu,hl,ho⟩:=M7 h
 have:=x9 hu hl
 unfold sw
 repeat' split
 all_goals first|decide|((simp only[Z8,Z2,Z7,Z5,ZW,bN,bz,dh,Z0];omega))
theorem TQ{f:dP}(h:Name f.name∧gY f.type=0):(jo f).size≤250:=by
 have h1:=M8 h.2
 have h2:=h.1.1.2.1
 unfold jo
 ((simp only[Z8,Z2,Z7,Z5,ZW,bN,bz,dh,Z0];omega))
theorem MO{t:fQ}(h:s8 t):(Lib.join ((t.fields.map jo).map (·.data.toList)) (⟨#[44]⟩:ag).data.toList).length≤3000:=by
 have h1:=Kq (t.fields.map jo) ⟨#[44]⟩
 have h2:=DU jo 250 fun f hf=>TQ (h.f f hf)
 have h3:(⟨#[44]⟩:ag).size=1:=rfl
 rw[Z5,h3]at h1
 have:=h.l
 omega
theorem asz{t:fQ}(h:s8 t):(rS (t.fields.map jo) ⟨#[44]⟩).size≤3000:=MO h
theorem asy{t:fQ}{i:Nat}(hT:s8 t)(h:i<t.fields.length):(∀ f∈(t.fields.getD i default).type.unit,gO f)∧(t.fields.getD i default).type.unit.length≤4∧(t.fields.getD i default).type.of.size≤100∧(t.fields.getD i default).name.size≤24∧(sw (t.fields.getD i default).type).size≤220:=by
 have h1:=hT.f _ (ei h)
 obtain⟨hu,hl,ho⟩:=M7 h1.2
 exact⟨hu,hl,ho,h1.1.1.2.1,M8 h1.2⟩
theorem TP(f:dP):eg [⟨#[32]⟩,f.name,⟨#[58,32]⟩,sw f.type]=jo f:=by simp only[eg,jo,gQ]
theorem ab5{fs:List dP}{i:Nat}(h:i<fs.length):((fs.take i).map jo).map ef++[[.v (.string (jo (fs.getD i default)))]]=((fs.take (i+1)).map jo).map ef:=by
 rw[EP h];simp[ef]
theorem MQ(t:fQ):Pure Tryz.prog 27 [.agg t.cells] (.aL [sv (if kP t=0 then sr t else⟨#[]⟩),iv (kP t)]):=by
 refine Xq.p fun σ=> ?_
 repeat'(first|exact .nil|refine .k0 ?_|refine .k1 ?_|refine .k2 ?_|refine .k6 ?_|refine .k7 ?_|refine .k9 ?_|(refine .cd ?_ ?_<;>(intro hc;skip))|refine .r1 ?_ ?_|(refine .m1 ?_ ?_;intro b)|(refine .m2 ?_ ?_;intro hlen)|refine .an rfl (by intro aO;first|exact asA t|fail) ?_ ?_|fail)
 all_goals(try simp only[BL]at *)
 ·refine Sx.Fin.intro Zs (qK ?_ rfl)
  exact(if_neg hc).symm
 have hT:=s8.of hc
 have hTn:=hT.n
 have hTe:=hT.e
 have Jh:=hT.k
 have hTl:=hT.l
 have hTz:=asz hT
 have hj:(rS [] (⟨#[44]⟩:ag)).size=0:=rfl
 have hTq:=xp t.keep (by omega)
 rw[if_pos hc,hc]
 refine dU (fun n rg σ'=>∃ i:Nat,i≤t.fields.length∧n=t.fields.length-i∧((i=0∧σ'=(1,b,cp.cells t.cells)::σ∧rg=[(1,.lp 1 b 0),(5,.v (.slice none 0 0)),(14,.sl false 4 (t.fields.map dP.cells)),(15,iv t.fields.length),(16,iv i)])∨(0<i∧∃ b' v c,σ'=(29,b',.tail v c)::(1,b,cp.cells t.cells)::σ∧rg=[(1,.lp 1 b 0),(5,.own 1 29 b' v c (((t.fields.take i).map jo).map ef)),(14,.sl false 4 (t.fields.map dP.cells)),(15,iv t.fields.length),(16,iv i)]))) t.fields.length rfl ⟨_,_,Zr,Zs,0,ZF _,rfl,.inl ⟨rfl,rfl,rfl⟩⟩ ?_
 rintro n _ _ ⟨i,hi,hn,⟨h0,rfl,rfl⟩|⟨h0,b0,v0,c0,rfl,rfl⟩⟩
 all_goals have hf:=fun h=>asy (i:=i) hT h
 all_goals have ov:=fun h=>(hf h).2.2.2.1
 all_goals have rQ:=fun h=>(hf h).2.2.2.2
 repeat'(first|exact .nil|refine .k0 ?_|refine .k1 ?_|refine .k2 ?_|refine .k4 ?_|refine .k5 ?_|refine .k6 ?_|refine .k7 ?_|refine .k8 ?_|refine .k9 ?_|(refine .cd ?_ ?_<;>(intro hc;skip))|refine .r1 ?_ ?_|(refine .l1 ?_;intro b)|refine .t1 ?_ ?_ ?_|refine .u1 ?_ ?_ ?_ (fun b u c=> ?_)|refine .u2 ?_ ?_ ?_ (fun b u c=> ?_)|refine .an rfl (by intro aO;first|exact uC _ (by first|omega|fail)|exact X0 (t.fields.getD i default).type (hf (by(simp only[BL]at *;omega))).1 (hf (by(simp only[BL]at *;omega))).2.1 (hf (by(simp only[BL]at *;omega))).2.2.1|exact kE _ rfl (Z9 rfl) (by simp only[fH,bz,Z0,Z8,Z2,lr];first|omega|(simp only[BL]at *;omega))|(refine(xq [] ⟨#[44]⟩ false (by decide) (by decide)).wk ?_;(repeat' first|exact .refl _|exact .nil|refine .cons ?_ ?_|fail);done)|(refine(xq (t.fields.map jo) ⟨#[44]⟩ false (by rw[Z5];omega) (YJ (MO hT) (by decide))).wk (bD.cons (Wk.Lj (by rw[ZD (by(simp only[BL]at *;omega))])) (bD.cons (Wk.refl _) bD.nil)))) ?_ ?_|(show List.all _ _=true;rfl)|fail)
 try any_goals(exact Zo)
 all_goals(try simp only[BL]at *)
 any_goals((simp only[Z8,Z2,Z7,Z5,ZW,bN,bz,dh,Z0];omega))
 all_goals have e:=fun h=>ab5 (fs:=t.fields) (i:=i) h
 all_goals try simp only[TP]
 ·subst h0
  refine⟨t.fields.length-(0+1),by omega,_,_,Zr,Zs,0+1,by omega,rfl,.inr ⟨by omega,_,_,_,rfl,?_⟩⟩
  rw[← e (by omega),fL (n:=t.fields.length) (by omega) (by assumption)];rfl
 ·have Cx:t.fields=[]:=ZO (by omega)
  refine Sx.Fin.intro Zs (qK ?_ rfl)
  unfold sr
  rw[if_neg hc,Cx]
  simp only[eg,gQ,vT,nP,xo Jh.1,Y7]
 ·have Cx:t.fields=[]:=ZO (by omega)
  refine Sx.Fin.intro Zs (qK ?_ rfl)
  unfold sr
  rw[if_pos hc,Cx]
  simp only[eg,gQ,vT,nP,Y7]
 ·refine⟨t.fields.length-(i+1),by omega,_,_,Zr,Zs,i+1,by omega,rfl,.inr ⟨by omega,_,_,_,rfl,?_⟩⟩
  rw[← e (by omega),fL (n:=t.fields.length) (by omega) (by assumption)]
 ·refine Sx.Fin.intro Zs (qK ?_ rfl)
  unfold sr
  rw[if_neg hc]
  simp only[eg,gQ,vT,nP,xo Jh.1]
 ·refine Sx.Fin.intro Zs (qK ?_ rfl)
  unfold sr
  rw[if_pos hc]
  simp only[eg,gQ,vT,nP]
end Go.Proofs.YtbihckigennlhaaGreatDoor
namespace Go.Sx
theorem bD.get{xs ys:List AV}(h:bD xs ys):xs.length=ys.length∧∀ j (h1:j<xs.length) (h2:j<ys.length),Wk xs[j] ys[j]:=by
 induction h with
 |nil=>exact⟨rfl,fun j h1=>absurd h1 (by simp)⟩
 |cons h t ih=>
  refine⟨by simp[ih.1],fun j h1 h2=> ?_⟩
  cases j with
  |zero=>exact h
  |succ j=>exact ih.2 j (by simpa using h1) (by simpa using h2)
inductive ta:List (List AV)→List (List AV)→Prop
 |nil:ta [] []
 |cons {x y:List AV} {xs ys:List (List AV)} (h:bD x y) (t:ta xs ys):ta (x::xs) (y::ys)
theorem ta.get{xs ys:List (List AV)}(h:ta xs ys):xs.length=ys.length∧∀ j (h1:j<xs.length) (h2:j<ys.length),bD xs[j] ys[j]:=by
 induction h with
 |nil=>exact⟨rfl,fun j h1=>absurd h1 (by simp)⟩
 |cons h t ih=>
  refine⟨by simp[ih.1],fun j h1 h2=> ?_⟩
  cases j with
  |zero=>exact h
  |succ j=>exact ih.2 j (by simpa using h1) (by simpa using h2)
theorem Wk.rows{nn:Bool}{n:Nat}{rows rows':List (List AV)}(h:ta rows rows'):Wk (.sl nn n rows) (.sl false n rows'):=fun M v hv=>by
 obtain⟨hl,hg⟩:=h.get
 cases hv with
 |nil _ _ a ha=>
  obtain rfl:rows'=[]:=ZO hl.symm
  exact .nil _ _ a (fun h=>nomatch h)
 |sl _ _ _ b off cap cs aT hM hR hc hm=>
  rw[hl]
  refine .sl _ _ _ b off cap cs (fun i hi=> ?_) (fun k hk=>hM k (by rw[hl];exact hk)) (fun i hi j hj=> ?_) (by omega) hm
  ·have:=(hg i (by omega) hi).get.1
   rw[← this];exact aT i (by omega)
  ·have C6:=(hg i (by omega) hi).get
   have:=hR i (by omega) j (by rw[C6.1];exact hj)
   exact C6.2 j (by rw[C6.1];exact hj) hj M _ this
end Go.Sx
namespace Go.Proofs.YtbihckigennlhaaGreatDoor
open Go.Sx Go.Proofs
abbrev aS:ag:=⟨#[97]⟩
abbrev bS:ag:=⟨#[98]⟩
abbrev cS:ag:=⟨#[99]⟩
def H8:List aq:=[⟨⟨#[101,117,114]⟩,1⟩]
def Rx:Ex:=⟨1,⟨#[]⟩,⟨#[]⟩,⟨#[]⟩,⟨2,2,⟨#[]⟩⟩,H8,0,⟨0,0⟩,[]⟩
def atD:Ex:=⟨1,⟨#[]⟩,⟨#[]⟩,⟨#[]⟩,⟨2,0,⟨#[]⟩⟩,[],0,⟨0,0⟩,[]⟩
def XY:Ex:=⟨1,⟨#[]⟩,⟨#[115,104,111,112]⟩,⟨#[]⟩,⟨5,0,⟨#[115,49]⟩⟩,[],0,⟨0,0⟩,[]⟩
def Rq:Ex:=⟨8,⟨#[]⟩,⟨#[]⟩,⟨#[]⟩,⟨0,0,⟨#[]⟩⟩,[],0,⟨0,0⟩,[uM aS,uM bS,uM cS]⟩
def Ss:Ex:=⟨9,⟨#[]⟩,⟨#[]⟩,⟨#[]⟩,⟨0,0,⟨#[]⟩⟩,[],0,⟨0,0⟩,[Rq,atD]⟩
def aaz:Ex:=⟨4,⟨#[]⟩,⟨#[114,97,110,107]⟩,⟨#[]⟩,⟨0,0,⟨#[]⟩⟩,[],0,⟨0,0⟩,[XY]⟩
def Rw:Ex:=⟨5,⟨#[99,111,117,110,116]⟩,⟨#[]⟩,⟨#[99,108,105,99,107,115]⟩,⟨0,0,⟨#[]⟩⟩,[],0,⟨1,0⟩,[du,du]⟩
def abI:Ex:=⟨5,⟨#[113,117,97,110,116,105,108,101]⟩,⟨#[]⟩,⟨#[99,97,108,108,115]⟩,⟨0,0,⟨#[]⟩⟩,[],950,⟨2,60⟩,[pk ⟨#[109,115]⟩,pk ⟨#[111,107]⟩]⟩
theorem xK{x:Ex}{s:ag}(hs:x.size≤100)(h:nZ x=s∧shape x=0):Pure Tryz.prog 31 [.agg x.row,sv s] (.v (.bool true)):=by
 have:=abC x hs s
 rwa [Zn h]at this
theorem abu:Pure Tryz.prog 31 [.agg Ss.row,sv ⟨#[40,105,102,32,97,32,116,104,101,110,32,98,32,101,108,115,101,32,99,41,32,100,101,102,97,117,108,116,32,48]⟩] (.v (.bool true)):=xK (by decide+kernel) (by decide+kernel)
theorem abv:Pure Tryz.prog 31 [.agg aaz.row,sv ⟨#[114,97,110,107,32,111,102,32,40,64,115,104,111,112,32,34,115,49,34,41]⟩] (.v (.bool true)):=xK (by decide+kernel) (by decide+kernel)
theorem abt:Pure Tryz.prog 31 [.agg Rw.row,sv ⟨#[99,111,117,110,116,40,99,108,105,99,107,115,44,32,97,108,108,41]⟩] (.v (.bool true)):=xK (by decide+kernel) (by decide+kernel)
theorem abw:Pure Tryz.prog 31 [.agg abI.row,sv ⟨#[113,117,97,110,116,105,108,101,40,99,97,108,108,115,44,32,109,115,44,32,57,53,48,44,32,115,108,105,100,105,110,103,32,54,48,32,119,104,101,114,101,32,111,107,41]⟩] (.v (.bool true)):=xK (by decide+kernel) (by decide+kernel)
def AU:fQ:=⟨⟨#[116]⟩,⟨#[117,115,101,114]⟩,[⟨⟨#[120]⟩,⟨3,H8,⟨#[]⟩⟩⟩,⟨⟨#[121]⟩,⟨1,[],⟨#[]⟩⟩⟩],9⟩
def AW:fQ:=⟨⟨#[116]⟩,⟨#[117,115,101,114]⟩,[],0⟩
theorem abx:Pure Tryz.prog 27 [.agg AU.cells] (.aL [sv ⟨#[116,97,98,108,101,32,116,32,111,102,32,117,115,101,114,32,123,32,120,58,32,100,101,99,32,91,101,117,114,93,44,32,121,58,32,98,111,111,108,32,125,32,107,101,101,112,32,57,59]⟩,iv 0]):=by
 have:=MQ AU
 rwa [show kP AU=0 by decide+kernel,if_pos rfl,show sr AU=⟨#[116,97,98,108,101,32,116,32,111,102,32,117,115,101,114,32,123,32,120,58,32,100,101,99,32,91,101,117,114,93,44,32,121,58,32,98,111,111,108,32,125,32,107,101,101,112,32,57,59]⟩ by decide+kernel]at this
theorem aby:Pure Tryz.prog 27 [.agg AW.cells] (.aL [sv ⟨#[116,97,98,108,101,32,116,32,111,102,32,117,115,101,114,32,123,32,125,59]⟩,iv 0]):=by
 have:=MQ AW
 rwa [show kP AW=0 by decide+kernel,if_pos rfl,show sr AW=⟨#[116,97,98,108,101,32,116,32,111,102,32,117,115,101,114,32,123,32,125,59]⟩ by decide+kernel]at this
theorem abz:Pure Tryz.prog 10 [.agg (pk ⟨#[120]⟩).row] (.aL [sv ⟨#[]⟩,iv 3]):=by
 have:=Ii (pk ⟨#[120]⟩) (by decide+kernel)
 rwa [show nZ (pk ⟨#[120]⟩)=⟨#[]⟩ by decide+kernel,show shape (pk ⟨#[120]⟩)=3 by decide+kernel]at this
theorem Ic:Pure Tryz.prog 8 [] (.v (.bool true)):=by
 refine k8.p fun σ=> ?_
 repeat'(first|exact .nil|refine .k0 ?_|refine .k1 ?_|refine .k2 ?_|refine .k5 ?_|refine .k7 ?_|refine .k9 ?_|(refine .cd ?_ ?_<;>(intro hc;first|exact kt hc (by assumption)|skip))|refine .r1 ?_ ?_|(refine .l1 ?_;intro b)|refine .an rfl (by intro aO;first|exact aaI _|exact TG _|exact asU|exact M5 _ _ _|exact aa5 _ _|(refine(M5 ⟨#[42]⟩ (uM bS) Rx).wk ?_;(repeat' first|exact .refl _|exact .nil|refine .cons ?_ ?_|refine .agg ?_|exact .sl|fail);done)|(refine(abu).wk ?_;((repeat' first|exact .refl _|exact .nil|refine .agg ?_|refine .cons ?_ ?_|refine .rows ?_);done))|(refine(abv).wk ?_;((repeat' first|exact .refl _|exact .nil|refine .agg ?_|refine .cons ?_ ?_|refine .rows ?_);done))|(refine(abt).wk ?_;((repeat' first|exact .refl _|exact .nil|refine .agg ?_|refine .cons ?_ ?_|refine .rows ?_);done))|(refine(abw).wk ?_;((repeat' first|exact .refl _|exact .nil|refine .agg ?_|refine .cons ?_ ?_|refine .rows ?_);done))|(refine(abx).wk ?_;((repeat' first|exact .refl _|exact .nil|refine .agg ?_|refine .cons ?_ ?_|refine .rows ?_);done))|(refine(aby).wk ?_;((repeat' first|exact .refl _|exact .nil|refine .agg ?_|refine .cons ?_ ?_|fail);done))|(refine(abz).wk ?_;((repeat' first|exact .refl _|fail);done))|exact xK (by decide+kernel) (by decide+kernel)) ?_ ?_|fail)
 all_goals try(exact absurd hc (by decide))
 any_goals exact Z9 rfl
 ·intro _;exact Z9 rfl
 ·exact Sx.Fin.intro Zs (congrArg (fun b=>AV.v (.bool b)) (by decide+kernel))
theorem Name.size{s:ag}(h:Name s):s.size≤24:=h.1.2.1
theorem kY.nR(f:kY):f.cells=[sv f.name,sv f.nX,iv f.type.kind,.sl false 2 (f.type.unit.map aq.cells),sv f.type.of,iv f.body.kind,sv f.body.op,sv f.body.name,sv f.body.table,iv f.body.val.kind,iv f.body.val.n,sv f.body.val.s,.sl false 2 (f.body.unit.map aq.cells),iv f.body.param,iv f.body.win.kind,iv f.body.win.size,.sl false 12 (f.body.args.map Ex.row),iv f.version]:=by rw[← Ex.nR];rfl
def N2(t:fQ):Prop:=(∀ f∈t.fields,f.name.size≤100∧Br f.type)∧t.fields.length≤12∧t.name.size+t.nX.size≤200
instance (t:fQ):Decidable (N2 t):=inferInstanceAs (Decidable (_∧_∧_))
def N1(f:kY):Prop:=f.name.size+f.nX.size≤200∧Br f.type∧0≤Iy f.body 80
instance (f:kY):Decidable (N1 f):=inferInstanceAs (Decidable (_∧_∧_))
set_option linter.unusedSectionVars false
set_option maxHeartbeats 8000000
theorem Ig(s:List UInt8)(nn:Bool):Sx.Pure Tryz.prog 9 [.sl nn 1 (s.map bA)] (wm s):=Ts TZ QN aaT Si s nn fun h=>asP h
theorem B6{α:Type}(f:List Tok→PR α)(z:α)(s:Bs):(fD f s).1.2=(mh f z s).2.2:=by
 unfold fD mh
 split
 ·rfl
 ·split
  ·rename_i h;rw[h]
  ·rename_i h;rw[h];simp only
   cases f (dD s).1 with
   |err p c=>rfl
   |ok a L=>
    rw[PR.aD]
    simp only
    by_cases hk:(hd L).kind≠6
    ·rw[if_pos hk,if_pos hk];rfl
    ·rw[if_neg hk,if_neg hk]
theorem Ng{α:Type}(f:List Tok→PR α)(z:α)(s:Bs):(if(mh f z s).2.2=0 then(fD f s).2.getD z else z)=(mh f z s).1:=by
 rw[← B6]
 unfold fD mh
 split
 ·rfl
 ·split
  ·rename_i h;rw[h];simp
  ·rename_i h;rw[h];simp only
   cases f (dD s).1 with
   |err p c=>simp[PR.bind]
   |ok a L=>
    rw[PR.aD]
    simp only
    by_cases hk:(hd L).kind≠6
    ·rw[if_pos hk,if_pos hk];rfl
    ·rw[if_neg hk,if_neg hk];rfl
theorem Mw{α:Type}{f:List Tok→PR α}{a y:α}{s:Bs}(h:∀ z,mh f z s=(a,0,0))(hy:y≠a):(fD f s).1.2=0∧(fD f s).2=some a:=by
 have h0:=B6 f a s
 rw[h a]at h0
 refine⟨h0,?_⟩
 have hv:∀ z,(fD f s).2.getD z=a:=fun z=>by
  have:=Ng f z s
  rwa [h z,if_pos rfl]at this
 cases hB:(fD f s).2 with
 |none=>exact absurd (by have:=hv y;rwa [hB]at this) hy
 |some b=>have:=hv a;rw[hB]at this;rw[← this];rfl
theorem AE{x:Ex}(h:shape x=0):x.size≤64:=by
 unfold shape at h
 split at h
 ·cases h
 ·omega
theorem Ih{x:Ex}(h:shape x=0):nZ x=text x:=if_pos h
theorem Q4{x:Ex}(h:shape x=0)(nn:Bool):Sx.Pure Tryz.prog 9 [.sl nn 1 ((nZ x).data.toList.map bA)] (.aL [.agg x.lay,iv 0,iv 0]):=by
 have hA:=Ig (bL (text x)) nn
 have hy:du≠x∨hO cu du≠x:=by
  by_cases e:du=x
  ·right;subst e;intro e;cases e
  ·exact .inl e
 obtain⟨h1,h2⟩:(fD (bj N0 false) (bL (text x))).1.2=0∧(fD (bj N0 false) (bL (text x))).2=some x:=by
  rcases hy with hy|hy
  ·exact Mw (Nw (xT h) (AE h)) hy
  ·exact Mw (Nw (xT h) (AE h)) hy
 unfold wm at hA
 rw[if_pos h1,h2]at hA
 rw[Ih h]
 have e:x.lay=tB x:=(Ex.cY x).symm
 rw[e]
 exact hA
theorem ar1(x y:Ex):Sx.Pure Tryz.prog 12 [.agg x.lay,.agg y.lay] (.v (.bool (decide (x=y)))):=by have:=arZ x y;rwa [Ex.cY x,Ex.cY y]at this
set_option linter.unusedSectionVars false
set_option maxHeartbeats 8000000
def tC:Ex:= .mk 0 ⟨#[]⟩ ⟨#[]⟩ ⟨#[]⟩ v0 [] 0 w0 []
theorem ND:bD zE tC.row:=by
 refine .cons (.refl _) (.cons (.refl _) (.cons (.refl _) (.cons (.refl _) (.cons (.refl _) (.cons (.refl _) (.cons (.refl _) (.cons .nil (.cons (.refl _) (.cons (.refl _) (.cons (.refl _) (.cons .nil .nil)))))))))))
theorem Pure.NA{f:FuncId}{xs:List AV}{r r':AV}(h:Sx.Pure Tryz.prog f xs r)(hw:Wk r r'):Sx.Pure Tryz.prog f xs r':=
 ⟨fun σ=>(h.sp σ).weak fun q σ' ⟨e1,e2⟩=>⟨.ret r',σ,⟨rfl,rfl⟩,by subst e2;exact .refl _,by subst e1;exact hw⟩⟩
abbrev wZ(s:Bs):Ex×Int×Int:=mh (bj N0 false) tC s
theorem Tt(s:List UInt8)(nn:Bool):∃ p,Sx.Pure Tryz.prog 9 [.sl nn 1 (s.map bA)] (.aL [.agg (wZ s).1.lay,iv p,iv (wZ s).2.2]):=by
 have hv:=Ng (bj N0 false) tC s
 have hA:=Ig s nn
 have hc:=B6 (bj N0 false) tC s
 have el:(wZ s).1.lay=(wZ s).1.row:=(Ex.cY _).symm
 rw[el]
 unfold wm at hA
 rw[hc]at hA
 by_cases h:(wZ s).2.2=0
 ·rw[if_pos h]at hA hv
  refine⟨0,Pure.NA hA ?_⟩
  rw[h]
  cases hB:(fD (bj N0 false) s).2 with
  |none=>
   rw[hB]at hv
   rw[← hv]
   exact .aL (.cons (.agg ND) (bD.refl _))
  |some a=>
   rw[hB]at hv
   rw[← hv]
   exact .aL (.cons (.agg (by rw[Option.elim_some,ZI];exact bD.refl _)) (bD.refl _))
 ·rw[if_neg h]at hA hv
  refine⟨(fD (bj N0 false) s).1.1,Pure.NA hA ?_⟩
  rw[← hv]
  exact .aL (.cons (.agg ND) (bD.refl _))
theorem Tr(x:Ex)(hs:x.size≤100000):Sx.Pure Tryz.prog 10 [.agg x.lay] (.aL [sv (nZ x),iv (shape x)]):=by
 refine Ks.p fun σ=> ?_
 repeat'(first|exact .nil|refine .k0 ?_|refine .k1 ?_|refine .k2 ?_|refine .k7 ?_|refine .k9 ?_|(refine .cd ?_ ?_<;>(intro hc;skip))|refine .r1 ?_ ?_|(refine .m1 ?_ ?_;intro b)|refine .an rfl (by intro aO;first|(refine(ED x (by omega)).wk ?_;(repeat' first|exact .row|exact .refl _|refine .cons ?_ ?_|refine .agg ?_|fail);done)|(refine(KZ x false (xT (by(simp only[BL]at *;omega))) (YJ (AE (by(simp only[BL]at *;omega))) (by decide))).wk ?_;(repeat' first|exact .row|exact .refl _|refine .cons ?_ ?_|refine .agg ?_|fail);done)) ?_ ?_|fail)
 all_goals(try simp only[BL]at *)
 all_goals(refine Sx.Fin.intro Zs (qK ?_ ?_)<;>first|rfl|exact(if_neg hc).symm|exact(if_pos hc).symm|exact hc.symm)
theorem ar5(x:Ex)(hs:x.size≤100000):Sx.Pure Tryz.prog 11 [.agg x.lay] (iv (shape x)):=by have:=ED x hs;rwa [Ex.cY x]at this
theorem TH(src:Bs)(hl:3000<src.length)(ha:src.length≤maxLen):Sx.Pure Tryz.prog 3 [.sl false 1 (src.map bA)] (.v (.bool true)):=by
 have hg:decide ((3000:Int)<(src.length:Int))=true:=Zn (by omega)
 refine k3.p fun σ=> ?_
 repeat'(first|exact .nil|refine .k0 ?_|refine .k1 ?_|refine .k2 ?_|refine .k7 ?_|refine .k9 ?_|(refine .cd ?_ ?_<;>(intro hc;first|exact kf hc (by assumption)|skip))|refine .r1 ?_ ?_|(refine .m2 ?_ ?_;intro hlen)|refine .an rfl (by intro aO;exact Ic) ?_ ?_|fail)
 all_goals first
  |(exfalso;simp at hc;done)
  |(show Sx.Fin _ _ _ _;(refine Sx.Fin.wk Zs ?_;repeat' first|exact .refl _|fail))
theorem TJ(src:Bs)(x:Ex)(p c:Int)(hl:src.length≤3000)(hs:x.size≤100000)(hx:Sx.Pure Tryz.prog 9 [.sl false 1 (src.map bA)] (.aL [.agg x.lay,iv p,iv c])):
  Sx.Pure Tryz.prog 3 [.sl false 1 (src.map bA)] (.v (.bool true)):=by
 have hS:shape x=0→(nZ x).size≤9223372036854775806:=fun h=>by
  rw[Ih h]
  have:=MU x false (xT h)
  have:=AE h
  omega
 by_cases h0:shape x=0
 all_goals
  refine k3.p fun σ=> ?_
  repeat'(first|exact .nil|refine .k0 ?_|refine .k1 ?_|refine .k2 ?_|refine .k4 ?_|refine .k7 ?_|refine .k9 ?_|(refine .cd ?_ ?_<;>(intro hc;skip))|refine .r1 ?_ ?_|(refine .l1 ?_;intro b)|(refine .m2 ?_ ?_;intro hlen)|refine .an rfl (by intro aO;first|exact Ic|exact hx|exact Tr x hs|exact ar5 x hs|exact Q4 (by grind) true|exact ar1 x x) ?_ ?_|refine .t7 ?_ ?_ ?_|fail)
  all_goals first
   |(intro _;exact hS h0)
   |(exfalso;simp[h0]at hc;done)
   |(refine Sx.Fin.intro Zs (congrArg (fun b=>AV.v (.bool b)) ?_);first|rfl|(simp[nZ,h0];done))
theorem abB(src:Bs)(ha:src.length≤maxLen):Sx.Pure Tryz.prog 3 [.sl false 1 (src.map bA)] (.v (.bool true)):=by
 by_cases hl:src.length≤3000
 ·obtain⟨p,hp⟩:=Tt src false
  have hz:(wZ src).1.size≤src.length+1:=atv tC src (by rw[tC,nE];exact ZK 1)
  exact TJ src _ p _ hl (by omega) hp
 ·exact TH src (by omega) ha
theorem own:ownKnob Tryz.prog.godebug=none:=by kernel_rfl
theorem laidOut:laidOutB Tryz.prog=true:=by kernel_rfl
section
variable {H:Type}{enc:TypeId×Value→H}{W:World}
end
section
variable {H:Type}{enc:TypeId×Value→H}{W:World}
theorem abN(n:Nat):Rd enc Tryz.prog W n 5 fun l=>∃ b:UInt8,l=bA b:=(Rd.int Tryz.underlying5).mono fun l ⟨z,h,hw⟩=>by
 simp only[Lit.wf,Z3,ZG]at hw
 have h1:(0:Int)≤z:=hw.1
 have h2:z≤255:=hw.2
 refine⟨UInt8.ofNat z.toNat,?_⟩
 rw[h]
 unfold bA
 have:(UInt8.ofNat z.toNat).toNat=z.toNat:=by simp;omega
 rw[this,Int.toNat_of_nonneg h1]
theorem abO:∀ n:Nat,Rd enc Tryz.prog W n 22 fun l=>∃ s:List UInt8,l=[.sl false 1 (s.map bA)]∧s.length≤maxLen
 |0=>Rd.zero _ _
 |n+1=>(Rd.slice Tryz.underlying22 (af:=1) (by kernel_rfl) (by decide) (abN n)).mono (by
  rintro _ ⟨rows,rfl,hm,h⟩
  obtain⟨ls,rfl,_⟩:=Mb (f:=bA) (W:=fun _=>True) (fun r hr=>by obtain⟨x,h⟩:=h r hr;exact⟨x,h,trivial⟩)
  exact⟨ls,rfl,by simpa using hm⟩)
end
end Go.Proofs.YtbihckigennlhaaGreatDoor
namespace Go.Proofs.YtbihckigennlhaaGreatDoor
open Go.Sx Go.Proofs Go.Lib
theorem Ee{W:World}{g:Nat}{x:AV}{v:Value}(hc:W.cell? ⟨g,0,none⟩=some v)(h:R (M0 W) x v):R (M0 W) (.pc [x]) (.pointer (some ⟨g,0,none⟩)):=by
 refine .pc [x] g 0 (fun _=>v) (fun k hk=> ?_) (fun k hk=> ?_)
 ·obtain rfl:k=0:=by simpa using hk
  exact hc
 ·obtain rfl:k=0:=by simpa using hk
  exact h
def uG(s:ag):DataW Unit:= .lit (.string s.data.toList)
theorem ast{enc:TypeId×Value→Unit}{P:Program}[Glob P]{W:World}{t e:TypeId}{fuel:Nat}{held:Bool}{cs:List Value}{p:List MemPlace}{ss:List ag}(ht:P.underlying t=some (.slice e))(he:P.underlying e=some .string)(UP:P.cellsOf e=1)
  (h0:ss≠[]) (hx:DataW.trod enc P W 0 (fun _=>true) held fuel t cs=some (.slice (ss.map uG) [],p)):∃ v,cs=[v]∧R (M0 W) (.sl false 1 (ss.map ef)) v:=by
 rcases DataW.trod_slice ht hx with⟨_,h⟩|⟨a,len,cap,elems,rest,m,rfl,rfl,cX,_,Vm,lD,hlen,mN,eD,_⟩
 ·cases h
 ·simp only[Y5,DataW.slice.injEq]at cX
  have Jr:=cX.1.1
  have hl:elems.length=ss.length:=by
   have:=congrArg List.length Jr
   simpa using this.symm
  have mY:0<ss.length:=YU.2 h0
  have cell:∀ i (hi:i<ss.length),W.cell? (a.add i)=some (.string (ss.getD i ⟨#[]⟩)):=by
   intro i hi
   have h1:=mN i (by omega)
   have js:i<elems.length:=by omega
   rw[Z1 js,Option.bind_eq_some_iff]at h1
   obtain⟨cs',hc,ot⟩:=h1
   obtain⟨s,rfl,hs,_⟩:=MX he ot
   obtain⟨g1,g2⟩:=B4 hc
   have g3:=g2 0 (by omega)
   have e1:(elems.map (·.1))[i]'(by simpa using js)=uG (ss[i]'hi):=by
    have:(ss.map uG)[i]'(by simpa using hi)=uG (ss[i]'hi):=by rw[Zm]
    rw[← this]
    exact List.getElem_of_eq Jr.symm _
   rw[Zm,hs]at e1
   simp only[uG,DataW.lit.injEq,Lit.string.injEq]at e1
   have e2:s=ss[i]'hi:=qo e1
   rw[UP,X8]at g3
   have e3:(a.add i).add 0=a.add i:=by rw[Go.Deep.add_add];rfl
   rw[e3]at g3
   rw[g3,e2,ZV,Z1 hi];rfl
  have oq:a.spot=none:=by
   have:=EH (cell 0 mY)
   simpa[Addr.add]using this
  obtain⟨b,o,s⟩:=a
  simp only at oq
  subst oq
  refine⟨_,rfl,?_⟩
  have oi:(ss.map ef).length=len:=by rw[Z5];omega
  have:=R.kJ (M:=M0 W) (b:=b) (off:=o) (cap:=cap) (af:=1) (rows:=ss.map ef) (cs:=fun k=> .string (ss.getD k ⟨#[]⟩)) ⟨fun i hi=> ?_,fun k hk=> ?_,fun i hi j hj=> ?_⟩ (by omega) lD false
  ·rw[oi]at this;exact this
  ·rw[Zm];rfl
  ·have:=cell k (by simpa using hk)
   rw[Addr.add_lit]at this
   exact this
  ·have cz:i<ss.length:=by simpa using hi
   simp only[Zm,ef,Z8,Z2]at hj ⊢
   obtain rfl:j=0:=by omega
   rw[ZV,X8,YT,Z1 cz]
   exact .v _
theorem Cv{W:World}{name:String}{G:Nat}{d:DataW Unit}{ss:List ag}(h:VarReads Tryz.prog W name d)(hg:Tryz.prog.globalNamed name=some G)(pO:(Tryz.prog.globals[G]?).map (·.type)=some 128)(hd:d= .slice (ss.map uG) [])(h0:ss≠[]):
  R (M0 W) (.pc [.sl false 1 (ss.map ef)]) (.pointer (some ⟨G,0,none⟩)):=by
 obtain⟨g,t,cs,fuel,p,h1,h2,h3,h4⟩:=h
 obtain rfl:=Zc (hg.symm.trans h1)
 obtain rfl:=Zc (pO.symm.trans h2)
 rw[hd]at h4
 obtain⟨v,hv,hR⟩:=ast Tryz.underlying128 Tryz.underlying9 (by kernel_rfl) h0 h4
 refine Ee ?_ hR
 rw[World.var?_cell hg h3 0]
 have:=congrArg (·[0]?) hv
 simpa using this
theorem Lu{W:World}{g:Nat}{vs:List Value}(hc:∀ k (h:k<vs.length),W.cell? ⟨g,k,none⟩=some vs[k]):R (M0 W) (.pc (vs.map AV.v)) (.pointer (some ⟨g,0,none⟩)):=by
 refine .pc _ g 0 (fun k=>vs.getD k undef) (fun k hk=> ?_) (fun k hk=> ?_)
 ·have bU:k<vs.length:=by simpa using hk
  rw[Y8,ZV,Z1 bU]
  exact hc k bU
 ·have bU:k<vs.length:=by simpa using hk
  rw[Zm,ZV,Z1 bU]
  exact .v _
theorem EN{W:World}{name:String}{d:DataW Unit}{G:Nat}{t e:TypeId}{n:Nat}{k:IntKind}{zs:List Int}(h:VarReads Tryz.prog W name d)(hd:d=tabData k zs)(hG:Tryz.prog.globalNamed name=some G)(pO:(Tryz.prog.globals[G]?).map (·.type)=some t)
  (ht:Tryz.prog.underlying t=some (.array n e)) (he:Tryz.prog.underlying e=some (.int k)) (h1:Tryz.prog.cellsOf e=1) (hn:Tryz.prog.cellsOf t=n):TabIs Tryz.prog W name k zs:=by
 obtain⟨g,t',cs,fuel,p,g1,g2,g3,g4⟩:=h
 obtain rfl:=Zc (hG.symm.trans g1)
 obtain rfl:=Zc (pO.symm.trans g2)
 rw[hd]at g4
 have:=cells_of_tab ht he h1 hn g4
 unfold TabIs
 rw[g3,← this]
theorem Lt{W:World}{name:String}{G:Nat}{k:IntKind}{zs:List Int}(h:TabIs Tryz.prog W name k zs)(hG:Tryz.prog.globalNamed name=some G):R (M0 W) (.pc ((zs.map fun z=>Value.int k z).map AV.v)) (.pointer (some ⟨G,0,none⟩)):=by
 refine Lu fun i hi=> ?_
 have cz:i<zs.length:=by simpa using hi
 have:=h.cell hG i cz
 rw[this]
 simp[cz]
theorem TX{W:World}(hL:laidMet Tryz.prog Rows.printerFixedRow.laid W)(pM:W.ShapedOpen Tryz.prog):Bt Tryz.prog W:=by
 have Dr:=laidMet.reads hL (n:= "internal/strconv.uint64pow10") (d:=Rows.laid_internal_strconv_uint64pow10) (by simp[Rows.printerFixedRow])
 refine⟨fun g l h=> ?_,?_,?_⟩
 ·simp only[Glob.av]at h
  split at h
  ·cases h
   exact Cv (laidMet.reads hL (n:= "asof/checker.aggregates") (d:=Rows.laid_asof_checker_aggregates) (by simp[Rows.printerFixedRow])) (by kernel_rfl) (by kernel_rfl) (by rfl) (by decide)
  ·cases h
   exact Cv (laidMet.reads hL (n:= "asof/checker.unary") (d:=Rows.laid_asof_checker_unary) (by simp[Rows.printerFixedRow])) (by kernel_rfl) (by kernel_rfl) (by rfl) (by decide)
  ·cases h
   exact Cv (laidMet.reads hL (n:= "asof/checker.binary") (d:=Rows.laid_asof_checker_binary) (by simp[Rows.printerFixedRow])) (by kernel_rfl) (by kernel_rfl) (by rfl) (by decide)
  ·cases h
   obtain⟨m,hm⟩:=cell_of_shapedOpen_int (g:=3) (zero:= #[.int .i64 0]) (t:=3) pM (of_decide_eq_true (by kernel_rfl)) (by kernel_rfl) rfl (by kernel_rfl) (by kernel_rfl) Tryz.underlying3
   exact Ee hm (.ai .i64 m)
  ·cases h
   have h1:=EN (k:= .i64) (zs:=[1,10,100,1000,10000,100000,1000000]) (n:=7) (G:=4) (t:=201) (e:=3) (laidMet.reads hL (n:= "asof/decimal.tens") (d:=Rows.laid_asof_decimal_tens) (by simp[Rows.printerFixedRow])) (by rfl) (by kernel_rfl) (by kernel_rfl) Tryz.underlying201 Tryz.underlying3 (by kernel_rfl) (by kernel_rfl)
   exact Lt h1 (by kernel_rfl)
  ·cases h
   obtain⟨g,t,cs,fuel,p,h1,h2,h3,h4⟩:=laidMet.reads hL (n:= "strconv.ErrRange") (d:=Rows.laid_strconv_ErrRange) (by simp[Rows.printerFixedRow])
   have hG:Tryz.prog.globalNamed "strconv.ErrRange" =some 9:=by kernel_rfl
   obtain rfl:=Zc (hG.symm.trans h1)
   have pO:(Tryz.prog.globals[9]?).map (·.type)=some 115:=by kernel_rfl
   obtain rfl:=Zc (pO.symm.trans h2)
   have ep:=World.var?_cell hG h3 0
   have J4: "*" ++ "errors.errorString" = "*errors.errorString" :=by decide
   cases fuel with
   |zero=>simp[DataW.trod]at h4
   |succ fuel=>
    unfold DataW.trod at h4
    rw[Tryz.underlying115]at h4
    clear hL pM Dr h1 h2 pO h3
    generalize bI:cs.toList=l at h4
    have e0:cs[0]? =l[0]? :=by rw[← bI];simp
    rw[e0]at ep
    clear e0 bI
    have key:∃ u v,l=[.iface u v]∧Tryz.prog.typeName? 3 u=some "*errors.errorString" :=by
     unfold Rows.laid_strconv_ErrRange at h4
     split at h4
     all_goals first|(exfalso;rename_i heq;cases heq;done)|(exfalso;rename_i heq _;cases heq;done)|(exfalso;cases h4;done)|skip
     rename_i u v _
     refine⟨u,v,rfl,?_⟩
     cases hn:Tryz.prog.typeName? 3 u with
     |none=>rw[hn]at h4;cases h4
     |some nm=>
      rw[hn]at h4
      simp only[ZS,Y5,DataW.iface.injEq]at h4
      obtain⟨_,_,⟨rfl,_⟩,_⟩:=h4
      rfl
    obtain⟨u,v,rfl,hu⟩:=key
    obtain rfl:u=258:=typeName_ptr_named (nm:= "errors.errorString") (by rw[J4];kernel_rfl) (by kernel_rfl) (by decide) u (by rw[J4];exact hu)
    exact Ee (ep.trans rfl) (.gp _ _ v (.any v))
  ·cases h
   have h1:=EN (k:= .u8) (zs:=firstTab) (n:=256) (G:=5) (t:=94) (e:=5) (laidMet.reads hL (n:= "unicode/utf8.first") (d:=Rows.laid_unicode_utf8_first) (by simp[Rows.printerFixedRow])) (by kernel_rfl) (by kernel_rfl) (by kernel_rfl) Tryz.underlying94 Tryz.underlying5 (by kernel_rfl) (by kernel_rfl)
   have:=Lt h1 (G:=5) (by kernel_rfl)
   rw[show(firstTab.map fun z=>Value.int .u8 z).map AV.v=(List.range 256).map fun c=>AV.v (.int .u8 (Lib.firstT c:Nat)) by unfold firstTab;rw[Yv,Yv];rfl]at this
   exact this
  ·cases h
   have h4:=laidMet.reads hL (n:= "unicode/utf8.acceptRanges") (d:=Rows.laid_unicode_utf8_acceptRanges) (by simp[Rows.printerFixedRow])
   rw[show(Rows.laid_unicode_utf8_acceptRanges:DataW Unit)=acceptData by kernel_rfl]at h4
   have hcell:∀ i,i<16→W.cell? ⟨6,2 * i,none⟩=some (.int .u8 (Lib.accLo i:Nat))∧W.cell? ⟨6,2 * i+1,none⟩=some (.int .u8 (Lib.accHi i:Nat)):=fun i hi=>by
    obtain⟨g,t,cs,fuel,p,hg,pO,J7,hd⟩:=h4
    have hG:Tryz.prog.globalNamed "unicode/utf8.acceptRanges" =some 6:=by kernel_rfl
    obtain rfl:=Zc (hG.symm.trans hg)
    have Wc:(Tryz.prog.globals[6]?).map (·.type)=some 234:=by kernel_rfl
    obtain rfl:=Zc (Wc.symm.trans pO)
    obtain⟨atH,d,q,Jn,he⟩:=array_elem Tryz.underlying234 hd i hi
    simp only[X5,List.getElem?_range hi,Zy,Z6]at Jn
    subst Jn
    have c2:Tryz.prog.cellsOf 233=2:=by kernel_rfl
    rw[c2]at he
    have jL:=ints_of_struct Tryz.underlying233 (fun j f hj=>by
     match j,hj with
     |0,hj=>simp at hj;subst hj;exact⟨Tryz.underlying5,rfl,by kernel_rfl⟩
     |1,hj=>simp at hj;subst hj;exact⟨Tryz.underlying5,rfl,by kernel_rfl⟩
     |j+2,hj=>simp at hj) (by rw[c2];rfl) he
    have e0:=congrArg (·[0]?) jL
    have e1:=congrArg (·[1]?) jL
    simp only[List.getElem?_take,Yj]at e0 e1
    constructor
    ·rw[World.var?_cell hG J7 (2 * i),← Array.getElem?_toList]
     simpa[YG]using e0
    ·rw[World.var?_cell hG J7 (2 * i+1),← Array.getElem?_toList]
     simpa[YG]using e1
   have hl:((List.range 16).flatMap fun i=>[AV.v (.int .u8 (Lib.accLo i:Nat)),AV.v (.int .u8 (Lib.accHi i:Nat))])=(((List.range 16).flatMap fun i=>[(Value.int .u8 (Lib.accLo i:Nat)),(Value.int .u8 (Lib.accHi i:Nat))]).map AV.v):=by kernel_rfl
   rw[hl]
   refine Lu fun k hk=> ?_
   have bU:k<32:=hk
   have key:∀ i:Fin 16,((List.range 16).flatMap fun i=>[(Value.int .u8 (Lib.accLo i:Nat)),(Value.int .u8 (Lib.accHi i:Nat))])[2 * i.val]? =some (Value.int .u8 (Lib.accLo i.val:Nat))∧
     ((List.range 16).flatMap fun i=>[(Value.int .u8 (Lib.accLo i:Nat)),(Value.int .u8 (Lib.accHi i:Nat))])[2 * i.val+1]? =some (Value.int .u8 (Lib.accHi i.val:Nat)):=by
    rintro⟨i,hi⟩
    have:i=0∨i=1∨i=2∨i=3∨i=4∨i=5∨i=6∨i=7∨i=8∨i=9∨i=10∨i=11∨i=12∨i=13∨i=14∨i=15:=by omega
    rcases this with rfl|rfl|rfl|rfl|rfl|rfl|rfl|rfl|rfl|rfl|rfl|rfl|rfl|rfl|rfl|rfl<;>exact⟨rfl,rfl⟩
   obtain⟨k1,k2⟩:=key ⟨k / 2,by omega⟩
   obtain⟨c1,c2⟩:=hcell (k / 2) (by omega)
   rcases Nat.mod_two_eq_zero_or_one k with e|e
   ·rw[show 2 * (k / 2)=k by omega]at c1 k1
    rw[c1,← k1,Z1 hk]
   ·rw[show 2 * (k / 2)+1=k by omega]at c2 k2
    rw[c2,← k2,Z1 hk]
  ·cases h
 ·exact EN (G:=7) Dr (by rfl) (by kernel_rfl) (t:=242) (n:=20) (e:=210) (by kernel_rfl) Tryz.underlying242 Tryz.underlying210 (by kernel_rfl) (by kernel_rfl)
 ·obtain⟨g,t,cs,fuel,p,h1,h2,h3,h4⟩:=Dr
  have hG:Tryz.prog.globalNamed "internal/strconv.uint64pow10" =some 7:=by kernel_rfl
  simp only[World.var?,hG,Option.bind_some]at h3
  split at h3
  ·rename_i e
   exact(Zz.1 e).1
  ·cases h3
end Go.Proofs.YtbihckigennlhaaGreatDoor
