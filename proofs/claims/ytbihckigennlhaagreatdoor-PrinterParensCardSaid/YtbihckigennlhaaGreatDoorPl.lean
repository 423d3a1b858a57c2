/- Texts of expressions: the walk through the printer. -/
import Derived.Test.YtbihckigennlhaaGreatDoorPc
import Derived.Test.YtbihckigennlhaaGreatDoorZa
import Derived.Test.YtbihckigennlhaaGreatDoorZf
import Derived.Test.YtbihckigennlhaaGreatDoorWi
import Derived.Test.YtbihckigennlhaaGreatDoorTm
import Derived.Test.YtbihckigennlhaaGreatDoorSxB
import Derived.Test.YtbihckigennlhaaGreatDoorRows
import Derived.Lib.LaidU8
import Derived.LaidLaws
import Derived.Shelf.Vars
import Derived.HandedShaped
set_option linter.unusedSimpArgs false
set_option linter.unusedVariables false
set_option maxRecDepth 100000
set_option maxHeartbeats 4000000
namespace Go.Proofs.YtbihckigennlhaaGreatDoor
open Go.Sx Go.Proofs
theorem N7(x:Ex):Pure Tryz.prog 128 [.agg x.row] (iv (aK x)):=by
 rw[Ex.bX x]
 refine abz.p fun σ=> ?_
 repeat'(first|exact .nil|refine .k0 ?_|refine .k1 ?_|refine .k2 ?_|refine .k6 ?_|refine .k7 ?_|refine .k9 ?_|(refine .cd ?_ ?_<;>(intro hc;first|exact kf hc (by assumption)|skip))|refine .r1 ?_ ?_|(refine .m1 ?_ ?_;intro b)|fail)
 all_goals(try simp only[BL]at *)
 all_goals(refine Sx.Fin.intro Zs (bi ?_);unfold aK;grind)
theorem azw(x:Ex)(h:iN x.win):Pure Tryz.prog 127 [.agg x.row] (sv (ug x.win)):=by
 have hw:0≤x.win.size∧x.win.size≤1099511627776:=by unfold iN at h;omega
 have hz:=yA x.win.size (by omega)
 have hi:=yz hw.1
 rw[Ex.bX x]
 refine aby.p fun σ=> ?_
 repeat'(first|exact .nil|refine .k0 ?_|refine .k1 ?_|refine .k2 ?_|refine .k6 ?_|refine .k7 ?_|refine .k9 ?_|(refine .cd ?_ ?_<;>(intro hc;skip))|refine .r1 ?_ ?_|(refine .m1 ?_ ?_;intro b)|refine .an rfl (by intro aF;first|exact vD _ (by first|omega|fail)|exact lM _ rfl (Z8 rfl) (by simp only[gh,bC,ZY,Z9,Z4];omega)|fail) ?_ ?_|fail)
 all_goals(try simp only[BL]at *)
 any_goals((simp only[Z9,Z4,Z7,Z3,ZT,bK,bC,du,ZY];omega))
 all_goals(refine Sx.Fin.intro Zs (bs ?_);simp[ug,eG,iA, *];done)
theorem acE(x:Ex)(h:ji x):Pure Tryz.prog 80 [.agg x.row] (sv (pA x)):=by
 have hv:mj x.val:=⟨h.1,h.2.1⟩
 have hk:=hv.kinds
 have hs:=GY hv
 obtain⟨hl,hu,ho⟩:=zK h.2.2.1
 have hl:x.unit.length≤4:=hl
 have hu:∀ f∈x.unit,gn f:=hu
 have ho:x.name.size≤24:=ho
 have hz:=zL hu hl
 rw[Ex.bX x]
 refine k80.p fun σ=> ?_
 repeat'(first|exact .nil|refine .k0 ?_|refine .k1 ?_|refine .k2 ?_|refine .k5 ?_|refine .k7 ?_|refine .k9 ?_|(refine .cd ?_ ?_<;>(intro hc;skip))|refine .r1 ?_ ?_|(refine .m1 ?_ ?_;intro b)|refine .an rfl (by intro aF;first|exact PB x.unit hu hl|exact WI x.val hv|exact lM _ rfl (Z8 rfl) (by simp only[gh,bC,ZY,Z9,Z4];omega)) ?_ ?_|fail)
 all_goals(try simp only[BL]at *)
 any_goals((simp only[Z9,Z4,Z7,Z3,ZT,bK,bC,du,ZY];omega))
 all_goals(refine Sx.Fin.intro Zs (bs ?_);simp[pA,eG,iA,oO, *];done)
theorem M9(x:Ex):Pure Tryz.prog 81 [.agg x.row] (sv x.name):=by
 rw[Ex.bX x]
 refine k81.p fun σ=> ?_
 repeat'(first|exact .nil|refine .k0 ?_|refine .k1 ?_|refine .k2 ?_|refine .k7 ?_|refine .r1 ?_ ?_|(refine .m1 ?_ ?_;intro b)|fail)
 all_goals(try simp only[BL]at *)
 all_goals exact Sx.Fin.intro Zs rfl
structure Kids(x:Ex)(F:FuncId):Prop where
 t:∀ i,i<x.args.length→Pure Tryz.prog F [.agg (x.args.getD i default).row] (sv (tx x i))
 z:∀ i,i<x.args.length→(tx x i).size≤100000
theorem jS{x:Ex}{F:FuncId}(h:Kids x F){i:Nat}{r:Int}(hi:i<x.args.length):(jx x (tx x) i r).size≤100002:=by
 have:=h.z i hi
 have:= @kn x (tx x) i r
 omega
theorem jR(x:Ex)(h:Kids x 39)(i:Nat)(hi:i<x.args.length)(r:Int):Pure Tryz.prog 126 [.agg x.row,iv i,iv r] (sv (jx x (tx x) i r)):=by
 have hz:=h.z i hi
 rw[Ex.bX x]
 refine abx.p fun σ=> ?_
 repeat'(first|exact .nil|refine .k0 ?_|refine .k1 ?_|refine .k2 ?_|refine .k7 ?_|refine .k9 ?_|(refine .cd ?_ ?_<;>(intro hc;skip))|refine .r1 ?_ ?_|(refine .l1 ?_;intro b)|(refine .m1 ?_ ?_;intro b)|refine .t1 ?_ ?_ ?_|refine .an rfl (by intro aF;first|exact N7 (x.args.getD i default)|exact h.t i hi|exact lM _ rfl (Z8 rfl) (by simp only[gh,bC,ZY,Z9,Z4];omega)) ?_ ?_|fail)
 try any_goals(exact Zo)
 all_goals(try simp only[BL]at *)
 any_goals((simp only[Z9,Z4,Z7,Z3,ZT,bK,bC,du,ZY];omega))
 all_goals(refine Sx.Fin.intro Zs (bs ?_);first|(rw[jx,if_pos hc];simp only[par,eG,iA];done)|(rw[jx,if_neg hc];done))
theorem sf(x:Ex)(T:Nat→af)(i:Nat):jx x T i 0=T i:=if_neg (by have:=(N6 (x.args.getD i default)).1;omega)
theorem xo(a:af):(⟨#[]⟩:af)++a=a:=pQ (by simp)
theorem acH(x:Ex)(h:Kids x 39)(hl:x.args.length=1)(hn:x.name.size≤24):Pure Tryz.prog 82 [.agg x.row] (sv (x.name++(⟨#[32,111,102,32,40]⟩++(tx x 0++⟨#[41]⟩)))):=by
 have hz:= @jS x _ h 0 0 (by omega)
 have h0:=sf x (tx x) 0
 rw[Ex.bX x]
 refine k82.p fun σ=> ?_
 repeat'(first|exact .nil|refine .k0 ?_|refine .k1 ?_|refine .k2 ?_|refine .k5 ?_|refine .k7 ?_|refine .r1 ?_ ?_|(refine .m1 ?_ ?_;intro b)|refine .an rfl (by intro aF;first|(refine(jR x h 0 (by omega) 0).wk ?_;(repeat' first|exact .row|exact .refl _|refine .cons ?_ ?_|refine .agg ?_|fail);done)|exact lM _ rfl (Z8 rfl) (by simp only[gh,bC,ZY,Z9,Z4,mn];omega)) ?_ ?_|fail)
 all_goals(try simp only[BL]at *)
 any_goals((simp only[Z9,Z4,Z7,Z3,ZT,bK,bC,du,ZY];omega))
 all_goals(refine Sx.Fin.intro Zs (bs ?_);simp[eG,iA, *];done)
theorem Ug(x:Ex)(h:Kids x 39)(hl:x.args.length=3):Pure Tryz.prog 86 [.agg x.row] (sv (td x (tx x))):=by
 have hz:= @jS x _ h 0 0 (by omega)
 have pn:= @jS x _ h 1 0 (by omega)
 have tc:= @jS x _ h 2 0 (by omega)
 have h0:=sf x (tx x) 0
 have h1:=sf x (tx x) 1
 have h2:=sf x (tx x) 2
 rw[Ex.bX x]
 refine k86.p fun σ=> ?_
 repeat'(first|exact .nil|refine .k0 ?_|refine .k1 ?_|refine .k2 ?_|refine .k5 ?_|refine .k7 ?_|refine .r1 ?_ ?_|(refine .m1 ?_ ?_;intro b)|refine .an rfl (by intro aF;first|(refine(jR x h 0 (by omega) 0).wk ?_;(repeat' first|exact .row|exact .refl _|refine .cons ?_ ?_|refine .agg ?_|fail);done)|(refine(jR x h 1 (by omega) 0).wk ?_;(repeat' first|exact .row|exact .refl _|refine .cons ?_ ?_|refine .agg ?_|fail);done)|(refine(jR x h 2 (by omega) 0).wk ?_;(repeat' first|exact .row|exact .refl _|refine .cons ?_ ?_|refine .agg ?_|fail);done)|exact lM _ rfl (Z8 rfl) (by simp only[gh,bC,ZY,Z9,Z4,mn];omega)) ?_ ?_|fail)
 all_goals(try simp only[BL]at *)
 any_goals((simp only[Z9,Z4,Z7,Z3,ZT,bK,bC,du,ZY];omega))
 all_goals(refine Sx.Fin.intro Zs (bs ?_);simp[td,eG,iA, *];done)
theorem Wm(x:Ex)(h:Kids x 39)(hl:x.args.length=2):Pure Tryz.prog 87 [.agg x.row] (sv (sn x (tx x))):=by
 have hz:= @jS x _ h 0 1 (by omega)
 have pn:= @jS x _ h 1 2 (by omega)
 rw[Ex.bX x]
 refine k87.p fun σ=> ?_
 repeat'(first|exact .nil|refine .k0 ?_|refine .k1 ?_|refine .k2 ?_|refine .k5 ?_|refine .k7 ?_|refine .r1 ?_ ?_|(refine .m1 ?_ ?_;intro b)|refine .an rfl (by intro aF;first|(refine(jR x h 0 (by omega) 1).wk ?_;(repeat' first|exact .row|exact .refl _|refine .cons ?_ ?_|refine .agg ?_|fail);done)|(refine(jR x h 1 (by omega) 2).wk ?_;(repeat' first|exact .row|exact .refl _|refine .cons ?_ ?_|refine .agg ?_|fail);done)|exact lM _ rfl (Z8 rfl) (by simp only[gh,bC,ZY,Z9,Z4,mn];omega)) ?_ ?_|fail)
 all_goals(try simp only[BL]at *)
 any_goals((simp only[Z9,Z4,Z7,Z3,ZT,bK,bC,du,ZY];omega))
 all_goals(refine Sx.Fin.intro Zs (bs ?_);simp[sn,eG,iA, *];done)
theorem ayS(x:Ex)(h:Kids x 39)(hl:x.args.length=1):Pure Tryz.prog 84 [.agg x.row] (sv (tY x (tx x))):=by
 have hz:= @jS x _ h 0 0 (by omega)
 have pn:= @jS x _ h 0 8 (by omega)
 have tc:= @jS x _ h 0 4 (by omega)
 have h0:=sf x (tx x) 0
 rw[Ex.bX x]
 refine k84.p fun σ=> ?_
 repeat'(first|exact .nil|refine .k0 ?_|refine .k1 ?_|refine .k2 ?_|refine .k6 ?_|refine .k7 ?_|refine .k9 ?_|(refine .cd ?_ ?_<;>(intro hc;skip))|refine .r1 ?_ ?_|(refine .m1 ?_ ?_;intro b)|refine .an rfl (by intro aF;first|(refine(jR x h 0 (by omega) 0).wk ?_;(repeat' first|exact .row|exact .refl _|refine .cons ?_ ?_|refine .agg ?_|fail);done)|(refine(jR x h 0 (by omega) 8).wk ?_;(repeat' first|exact .row|exact .refl _|refine .cons ?_ ?_|refine .agg ?_|fail);done)|(refine(jR x h 0 (by omega) 4).wk ?_;(repeat' first|exact .row|exact .refl _|refine .cons ?_ ?_|refine .agg ?_|fail);done)|exact lM _ rfl (Z8 rfl) (by simp only[gh,bC,ZY,Z9,Z4,mn];omega)) ?_ ?_|fail)
 all_goals(try simp only[BL]at *)
 any_goals((simp only[Z9,Z4,Z7,Z3,ZT,bK,bC,du,ZY];omega))
 all_goals(refine Sx.Fin.intro Zs (bs ?_);simp[tY,eG,iA, *];done)
theorem TY(x:Ex)(h:Kids x 39)(hl:x.args.length=2)(ho:x.op.size≤8):Pure Tryz.prog 85 [.agg x.row] (sv (si x (tx x))):=by
 have hz:= @jS x _ h 0 (aK x) (by omega)
 have pn:= @jS x _ h 0 (IntKind.i64.wrap (aK x+1)) (by omega)
 have tc:= @jS x _ h 1 (IntKind.i64.wrap (aK x+1)) (by omega)
 have hr:=N6 x
 rw[Ex.bX x]
 refine k85.p fun σ=> ?_
 repeat'(first|exact .nil|refine .k0 ?_|refine .k1 ?_|refine .k2 ?_|refine .k5 ?_|refine .k7 ?_|refine .k9 ?_|(refine .cd ?_ ?_<;>(intro hc;skip))|refine .r1 ?_ ?_|(refine .m1 ?_ ?_;intro b)|refine .an rfl (by intro aF;first|(refine(N7 x).wk ?_;(repeat' first|exact .row|exact .refl _|refine .cons ?_ ?_|refine .agg ?_|fail);done)|(refine(jR x h 0 (by omega) (aK x)).wk ?_;(repeat' first|exact .row|exact .refl _|refine .cons ?_ ?_|refine .agg ?_|fail);done)|(refine(jR x h 0 (by omega) (IntKind.i64.wrap (aK x+1))).wk ?_;(repeat' first|exact .row|exact .refl _|refine .cons ?_ ?_|refine .agg ?_|fail);done)|(refine(jR x h 1 (by omega) (IntKind.i64.wrap (aK x+1))).wk ?_;(repeat' first|exact .row|exact .refl _|refine .cons ?_ ?_|refine .agg ?_|fail);done)|exact lM _ rfl (Z8 rfl) (by simp only[gh,bC,ZY,Z9,Z4,mn];omega)) ?_ ?_|fail)
 all_goals(try simp only[BL]at *)
 any_goals((simp only[Z9,Z4,Z7,Z3,ZT,bK,bC,du,ZY];omega))
 all_goals(refine Sx.Fin.intro Zs (bs ?_);have hw:IntKind.i64.wrap (aK x+1)=aK x+1:=aW (by omega)
           rw[hw];unfold si iI;first|(simp only[hc,eG,iA,Y7,Zt];done)|(simp only[hc,eG,iA,Y7,Zt];rfl))
theorem ayP{y:Ex}{q:Bool}(hf:form q y=true):y=dD↔y.kind=1∧y.val.kind=1∧y.val.n=1∧y.val.s=⟨#[]⟩:=by
 constructor
 ·rintro rfl;exact⟨rfl,rfl,rfl,rfl⟩
 ·rintro⟨h1,h2,h3,h4⟩
  refine Kx hf ?_
  have hb:=(lj.of hf).nb
  unfold dC at hb
  rw[if_pos h1]at hb
  obtain⟨e1,e2,e3,e4⟩:=hb
  have hu:y.unit=[]∧y.name=⟨#[]⟩:=by
   unfold il at e3
   split at e3
   ·omega
   ·rename_i h
    simp only[Num]at h
    constructor
    ·exact Y4.1 fun h'=>h (.inr (.inr (.inl ⟨h',by omega⟩)))
    ·exact Y4.1 fun h'=>h (.inr (.inr (.inr (.inr ⟨by omega,h'⟩))))
  obtain⟨f1,f2,f3,f4,f5,f6,f7,f8⟩:=e4
  exact⟨h1,f2,hu.2,f4,GZ.2 ⟨h2,h3,h4⟩,hu.1,f7,f8⟩
theorem Tt(x:Ex)(h:Kids x 39)(hl:x.args.length=2)(ho:x.op.size≤8)(ht:x.table.size≤24)(hw:iN x.win)(hp:0≤x.param∧x.param≤1073741824)(hf:form true (x.args.getD 1 default)=true):Pure Tryz.prog 83 [.agg x.row] (sv (gq x (tx x))):=by
 have hz:= @jS x _ h 0 0 (by omega)
 have pn:= @jS x _ h 1 0 (by omega)
 have h0:=sf x (tx x) 0
 have h1:=sf x (tx x) 1
 have hi:=yz hp.1
 have hz3:=yA x.param (by omega)
 have hz4:=Ha hw
 rw[Ex.bX x]
 refine k83.p fun σ=> ?_
 repeat'(first|exact .nil|refine .k0 ?_|refine .k1 ?_|refine .k2 ?_|refine .k4 ?_|refine .k7 ?_|refine .k9 ?_|(refine .cd ?_ ?_<;>(intro hc;skip))|refine .r1 ?_ ?_|(refine .l1 ?_;intro b)|(refine .m1 ?_ ?_;intro b)|refine .t1 ?_ ?_ ?_|refine .an rfl (by intro aF;first|(refine(azw x hw).wk ?_;(repeat' first|exact .row|exact .refl _|refine .cons ?_ ?_|refine .agg ?_|fail);done)|exact vD _ (by first|omega|fail)|(refine(jR x h 0 (by omega) 0).wk ?_;(repeat' first|exact .row|exact .refl _|refine .cons ?_ ?_|refine .agg ?_|fail);done)|(refine(jR x h 1 (by omega) 0).wk ?_;(repeat' first|exact .row|exact .refl _|refine .cons ?_ ?_|refine .agg ?_|fail);done)|exact lM _ rfl (Z8 rfl) (by simp only[gh,bC,ZY,Z9,Z4,mn];omega)) ?_ ?_|fail)
 try any_goals(exact Zo)
 all_goals(try simp only[BL]at *)
 any_goals((simp only[Z9,Z4,Z7,Z3,ZT,bK,bC,du,ZY];omega))
 try any_goals(simp only[mn,gh,bC,ZY,Z9,Z4];omega)
 all_goals(refine Sx.Fin.intro Zs (bs ?_);have hy:=ayP hf;unfold gq cZ;repeat' split
           all_goals first|(exfalso;grind)|(simp only[eG,iA,xo,oO,h0,h1,hi];done))
theorem ayz (x:Ex) (r:af) (h:(x.kind=1∧Pure Tryz.prog 80 [.agg x.row] (sv r))
  ∨(x.kind=2∧Pure Tryz.prog 81 [.agg x.row] (sv r))∨(x.kind=3∧Pure Tryz.prog 81 [.agg x.row] (sv r))
  ∨(x.kind=4∧Pure Tryz.prog 82 [.agg x.row] (sv r))∨(x.kind=5∧Pure Tryz.prog 83 [.agg x.row] (sv r))
  ∨(x.kind=6∧Pure Tryz.prog 84 [.agg x.row] (sv r))∨(x.kind=7∧Pure Tryz.prog 85 [.agg x.row] (sv r))
  ∨(x.kind=8∧Pure Tryz.prog 86 [.agg x.row] (sv r))∨(x.kind=9∧Pure Tryz.prog 87 [.agg x.row] (sv r))):
  Pure Tryz.prog 39 [.agg x.row] (sv r):=by
 obtain⟨k,o,nm,t,v,u,p,w,ks⟩:=x
 simp only[Ex.kind]at h
 rcases h with⟨rfl,hC⟩|⟨rfl,hC⟩|⟨rfl,hC⟩|⟨rfl,hC⟩|⟨rfl,hC⟩|⟨rfl,hC⟩|⟨rfl,hC⟩|⟨rfl,hC⟩|⟨rfl,hC⟩
 all_goals rw[Ex.bX]
 all_goals rw[Ex.bX]at hC
 all_goals refine k39.p fun σ=> ?_
 repeat'(first|exact .nil|refine .k0 ?_|refine .k1 ?_|refine .k2 ?_|refine .k7 ?_|refine .r1 ?_ ?_|(refine .m1 ?_ ?_;intro b)|refine .an rfl (by intro aF;(refine hC.wk ?_;(repeat' first|exact .refl _|fail);done)) ?_ ?_|(refine .l3 ?_;intro b)|refine .r6 ?_ ?_|refine .r7 ?_ ?_|fail)
 all_goals(try simp only[BL]at *)
 all_goals exact Sx.Fin.intro Zs rfl
theorem ace{x:Ex}{ins:Bool}(h:dC x ins):1≤x.kind∧x.kind≤9:=by
 unfold dC at h
 repeat' split at h
 all_goals first|omega|exact h.elim
theorem parts{x:Ex}{ins:Bool}(h:lj x ins):
  (x.kind=1→ji x∧x.args.length=0)∧(x.kind=2∨x.kind=3→jj x∧x.args.length=0)∧(x.kind=4→jj x∧x.args.length=1)∧(x.kind=5→az6 x∧x.args.length=2)
  ∧(x.kind=6→x.args.length=1∧∃ y∈wI,x.op=y)∧(x.kind=7→x.args.length=2∧∃ y∈iC,x.op=y)∧(x.kind=8→x.args.length=3)∧(x.kind=9→x.args.length=2):=by
 have hb:=h.nb
 have hn:=h.nn
 unfold dC at hb
 unfold fS at hn
 refine⟨fun e=> ?_,fun e=> ?_,fun e=> ?_,fun e=> ?_,fun e=> ?_,fun e=> ?_,fun e=> ?_,fun e=> ?_⟩
 all_goals grind
theorem ado{x:Ex}(h:kM x):0≤x.param∧x.param≤1073741824:=by
 unfold kM at h
 repeat' split at h
 all_goals omega
theorem ac0(x:Ex):∀ ins,form ins x=true→x.size≤100→Pure Tryz.prog 39 [.agg x.row] (sv (text x)):=by
 induction x using Ex.ind with
 |h x ih=>
 intro ins hf hs
 have h:=lj.of hf
 have hk:Kids x 39:=by
  constructor
  ·intro i hi
   have:=Ex.tQ (cW hi)
   rw[zJ hi]
   exact ih _ (cW hi) _ (h.sub _ (cW hi)) (by omega)
  ·intro i hi
   have:=Ex.tQ (cW hi)
   rw[zJ hi]
   exact YG (ayB _ _ (h.sub _ (cW hi))) (by omega)
 obtain⟨p1,p2,p4,p5,p6,p7,p8,p9⟩:=parts h
 have hr:=ace h.nb
 refine ayz x (text x) ?_
 rw[Ch]
 unfold wF
 have:x.kind=1∨x.kind=2∨x.kind=3∨x.kind=4∨x.kind=5∨x.kind=6∨x.kind=7∨x.kind=8∨x.kind=9:=by omega
 rcases this with e|e|e|e|e|e|e|e|e
 ·rw[if_pos e];exact .inl ⟨e,acE x (p1 e).1⟩
 ·simp only[e,Int.reduceEq,Zt];exact .inr (.inl ⟨trivial,M9 x⟩)
 ·simp only[e,Int.reduceEq,Zt];exact .inr (.inr (.inl ⟨trivial,M9 x⟩))
 ·simp only[e,Int.reduceEq,Zt,Y7];exact .inr (.inr (.inr (.inl ⟨trivial,acH x hk (p4 e).2 (p4 e).1.1.1.2.1⟩)))
 ·have hA:=(p5 e).1
  obtain⟨⟨y,hy,ho⟩,ht,hw,hp, -⟩:=hA
  have e1:=Al y hy
  rw[← ho]at e1
  have hl:=(p5 e).2
  have h1:=h.sub _ (cW (i:=1) (by omega))
  rw[e]at h1
  simp only[e,Int.reduceEq,Zt,Y7]
  exact .inr (.inr (.inr (.inr (.inl ⟨trivial,Tt x hk hl e1 ht.1.2.1 hw (ado hp) (by simpa using h1)⟩))))
 ·simp only[e,Int.reduceEq,Zt,Y7];exact .inr (.inr (.inr (.inr (.inr (.inl ⟨trivial,ayS x hk (p6 e).1⟩)))))
 ·obtain⟨hl,y,hy,ho⟩:=p7 e
  have e1:=Aw y hy
  rw[← ho]at e1
  simp only[e,Int.reduceEq,Zt,Y7]
  exact .inr (.inr (.inr (.inr (.inr (.inr (.inl ⟨trivial,TY x hk hl e1⟩))))))
 ·simp only[e,Int.reduceEq,Zt,Y7];exact .inr (.inr (.inr (.inr (.inr (.inr (.inr (.inl ⟨trivial,Ug x hk (p8 e)⟩)))))))
 ·simp only[e,Int.reduceEq,Zt,Y7];exact .inr (.inr (.inr (.inr (.inr (.inr (.inr (.inr ⟨trivial,Wm x hk (p9 e)⟩)))))))
theorem Gq{x:Ex}(h:shape x=0):form false x=true:=by
 unfold shape at h
 split at h
 ·omega
 ·split at h
  ·assumption
  ·omega
def qt(x:Ex):af:=if shape x=0 then text x else⟨#[]⟩
theorem uM{a b:af}{n m:Int}(h:a=b)(h2:n=m):AV.aI [.v (.string a),.v (.int .i64 n)]= .aI [sv b,iv m]:=by rw[h,h2]
theorem DL(x:Ex)(hs:x.size≤100):Pure Tryz.prog 10 [.agg x.row] (.aI [sv (qt x),iv (shape x)]):=by
 rw[Ex.bX x]
 refine k10.p fun σ=> ?_
 repeat'(first|exact .nil|refine .k0 ?_|refine .k1 ?_|refine .k2 ?_|refine .k7 ?_|refine .k9 ?_|(refine .cd ?_ ?_<;>(intro hc;skip))|refine .r1 ?_ ?_|(refine .m1 ?_ ?_;intro b)|refine .an rfl (by intro aF;first|(refine(axV x (by omega)).wk ?_;(repeat' first|exact .row|exact .refl _|refine .cons ?_ ?_|refine .agg ?_|fail);done)|(refine(ac0 x false (Gq (by(simp only[BL]at *;omega))) hs).wk ?_;(repeat' first|exact .row|exact .refl _|refine .cons ?_ ?_|refine .agg ?_|fail);done)|fail) ?_ ?_|fail)
 all_goals(try simp only[BL]at *)
 all_goals(refine Sx.Fin.intro Zs (uM ?_ ?_)<;>first|rfl|exact(if_neg hc).symm|exact(if_pos hc).symm|exact hc.symm)
theorem Pu{t:Ty}(h:il t=0):(∀ f∈t.unit,gn f)∧t.unit.length≤4∧t.of.size≤100:=by
 obtain⟨h1,h2,h3⟩:=zK h
 exact⟨h2,h1,by omega⟩
theorem adI(x:Ex)(hs:x.size≤100)(s:af):Pure Tryz.prog 31 [.agg x.row,sv s] (.v (.bool (decide (qt x=s∧shape x=0)))):=by
 rw[Ex.bX x]
 refine k31.p fun σ=> ?_
 repeat'(first|exact .nil|refine .k0 ?_|refine .k1 ?_|refine .k2 ?_|refine .k4 ?_|refine .k7 ?_|refine .r1 ?_ ?_|(refine .m1 ?_ ?_;intro b)|refine .an rfl (by intro aF;(refine(DL x hs).wk ?_;(repeat' first|exact .row|exact .refl _|refine .cons ?_ ?_|refine .agg ?_|fail);done)) ?_ ?_|fail)
 all_goals(try simp only[BL]at *)
 all_goals(refine Sx.Fin.intro Zs (bd ?_);grind)
def vQ(s:af):Ex:=⟨3,⟨#[]⟩,s,⟨#[]⟩,⟨0,0,⟨#[]⟩⟩,[],0,⟨0,0⟩,[]⟩
def qv(s:af):Ex:=⟨2,⟨#[]⟩,s,⟨#[]⟩,⟨0,0,⟨#[]⟩⟩,[],0,⟨0,0⟩,[]⟩
def Pr(o:af)(a b:Ex):Ex:=⟨7,o,⟨#[]⟩,⟨#[]⟩,⟨0,0,⟨#[]⟩⟩,[],0,⟨0,0⟩,[a,b]⟩
def Nt(o:af)(a:Ex):Ex:=⟨6,o,⟨#[]⟩,⟨#[]⟩,⟨0,0,⟨#[]⟩⟩,[],0,⟨0,0⟩,[a]⟩
theorem acO(s:af):Pure Tryz.prog 30 [sv s] (.agg (vQ s).row):=by
 refine k30.p fun σ=> ?_
 repeat'(first|exact .nil|refine .k0 ?_|refine .k1 ?_|refine .k2 ?_|refine .k7 ?_|refine .r1 ?_ ?_|(refine .l1 ?_;intro b)|fail)
 all_goals(try simp only[BL]at *)
 ·refine Sx.Fin.wk Zs (Wk.agg ?_)
  show bH _ (vQ s).lay
  unfold Ex.lay
  repeat' first|exact .refl _|exact .nil|refine .cons ?_ ?_|fail
theorem Wv(s:af):Pure Tryz.prog 35 [sv s] (.agg (qv s).row):=by
 refine k35.p fun σ=> ?_
 repeat'(first|exact .nil|refine .k0 ?_|refine .k1 ?_|refine .k2 ?_|refine .k7 ?_|refine .r1 ?_ ?_|(refine .l1 ?_;intro b)|fail)
 all_goals(try simp only[BL]at *)
 ·refine Sx.Fin.wk Zs (Wk.agg ?_)
  show bH _ (qv s).lay
  unfold Ex.lay
  repeat' first|exact .refl _|exact .nil|refine .cons ?_ ?_|fail
theorem Ie{n:Nat}{rows rows':List (List AV)}(h:rows=rows'):Wk (.sl true n rows) (.sl false n rows'):=h ▸ Wk.sl
theorem Ps(o:af)(y z:Ex):Pure Tryz.prog 32 [sv o,.agg y.row,.agg z.row] (.agg (Pr o y z).row):=by
 have e:[y.lay,z.lay]=List.map Ex.row [y,z]:=by show _=[y.row,z.row];rw[Ex.bX y,Ex.bX z];rfl
 rw[Ex.bX y,Ex.bX z,Ex.bX (Pr o y z)]
 refine k32.p fun σ=> ?_
 repeat'(first|exact .nil|refine .k0 ?_|refine .k1 ?_|refine .k2 ?_|refine .k7 ?_|refine .r1 ?_ ?_|(refine .l1 ?_;intro b)|(refine .m1 ?_ ?_;intro b)|fail)
 all_goals(try simp only[BL]at *)
 any_goals exact Z8 rfl
 ·refine Sx.Fin.wk Zs (Wk.agg ?_)
  repeat'(first|exact Wk.refl _|exact bH.nil|exact Ie e|refine bH.cons ?_ ?_|exact Wk.nil)
theorem adg(o:af)(y:Ex):Pure Tryz.prog 33 [sv o,.agg y.row] (.agg (Nt o y).row):=by
 have e:[y.lay]=List.map Ex.row [y]:=by show _=[y.row];rw[Ex.bX y];rfl
 rw[Ex.bX y,Ex.bX (Nt o y)]
 refine k33.p fun σ=> ?_
 repeat'(first|exact .nil|refine .k0 ?_|refine .k1 ?_|refine .k2 ?_|refine .k7 ?_|refine .r1 ?_ ?_|(refine .l1 ?_;intro b)|(refine .m1 ?_ ?_;intro b)|fail)
 all_goals(try simp only[BL]at *)
 any_goals exact Z8 rfl
 ·refine Sx.Fin.wk Zs (Wk.agg ?_)
  repeat'(first|exact Wk.refl _|exact bH.nil|exact Ie e|refine bH.cons ?_ ?_|exact Wk.nil)
end Go.Proofs.YtbihckigennlhaaGreatDoor
namespace Go.Sx
structure At(P:Program)[Glob P](f:FuncId)(xs:List AV)(r:AV)(σ:Store):Prop where
 sp:Spec P f xs σ fun r' σ'=>r'= .ret r∧σ'=σ
theorem At.wk{P:Program}[Glob P]{f:FuncId}{xs bs:List AV}{r:AV}{σ:Store}(h:At P f bs r σ)(hw:bH xs bs):At P f xs r σ:=
 ⟨fun M w0 w cs hI hR=>h.sp M w0 w cs hI (hw.sound hR)⟩
theorem Jl{P:Program}[Glob P]{f:FuncId}{xs:List AV}{σ:Store}{K:AV→Store→Prop}{E:List PanicEntry→Store→Prop}{r:AV}(h:At P f xs r σ)(k:K r σ):qd P f xs σ K E:=
 ⟨_,h.sp,fun _ _ ⟨e,e'⟩=>by cases e;subst e';exact k,fun _ _ ⟨e,_⟩=>by cases e⟩
theorem At.cY{P:Program}[Glob P][jO P]{f:FuncId}{fn:Func}{fc:FC}{xs:List AV}{r:AV}{σ:Store}{a:AC}(cfg:Nat→Nat)(hf:P.funcs[f]? =some fn)(hc:cm P fn=some fc)(ha:fc.code=a.erase)(hlen:xs.length≤fc.N)
  (h:WK P fc.N cfg (lW fc.res r σ) a [] (jw 0 xs) σ):At P f xs r σ:=by
 have h1:=h.h.h
 rw[← ha]at h1
 refine⟨?_⟩
 have:=Spec.intro (Q:=fun r' σ'=>∃ x,r'= .ret x∧Wk x r∧Sub σ σ') hf hc hlen (h1.mono (fun e rg σ' hq=>by
  cases e with
  |normal=>obtain⟨x,h1,h2,h3⟩:=hq;exact⟨x,h1,x,rfl,h2,h3⟩
  |ret=>obtain⟨x,h1,h2,h3⟩:=hq;exact⟨x,h1,x,rfl,h2,h3⟩
  |_=>exact hq.elim))
 refine this.weak ?_
 rintro r' σ' ⟨x,rfl,h2,h3⟩
 exact⟨.ret r,σ,⟨rfl,rfl⟩,h3,h2⟩
section
variable {P:Program}[Glob P]{cfg:Nat→Nat}{K:ae→Store→Prop}{E:List PanicEntry→Store→Prop}{σ:Store}{l:List CI}{d:Nat}{v:AV}{xr:XR}{ps:List Prop}{g:Option (Nat×Bool)}{og:Option Bool}{xs:List AV}{args:List Operand}
theorem H6{f:FuncId}{r:AV}(h:aA xr g args=some (og,xs,ps))(hp:og.getD true=true→At P f xs r σ)(al:OB ps)(k:VX P cfg l K E (bF og d r xr) σ):VX P cfg (⟨some d,.call f args,g⟩::l) K E xr σ:=by
 obtain⟨hc,he⟩:=bZ h
 refine gU hc (fun hg=> ?_) (fun hg=> ?_)
 ·simp only[aj,he al hg]
  refine Jl (hp hg) ?_
  rw[← eP hg];exact k.h
 ·rw[← eO hg (v:=r)];exact k.h
theorem Q5{f:FuncId}{r fv:AV}{fo:Operand}{a c:Array Value}(h:aA xr g (fo::args)=some (og,fv::xs,ps))(hf:uY fv=some (f,a,c))(bJ:gV P f=true)(hp:og.getD true=true→At P f (a.toList.map .v++xs++c.toList.map .v) r σ)(al:OB ps)(k:VX P cfg l K E (bF og d r xr) σ):
  VX P cfg (⟨some d,.dA fo args,g⟩::l) K E xr σ:=by
 obtain⟨hc,he⟩:=bZ h
 refine gU hc (fun hg=> ?_) (fun hg=> ?_)
 ·have:=he al hg
  simp only[aU,ZW]at this
  simp only[aj,this.1,this.2,AR hf]
  refine⟨bJ,Jl (hp hg) ?_⟩
  rw[← eP hg];exact k.h
 ·rw[← eO hg (v:=r)];exact k.h
end
theorem Wk.ptr(t b o:Nat):Wk (.v (.pointer (some ⟨b,o,none⟩))) (.lp t b o):=fun M x h=>by
 obtain rfl:=h.az
 exact .lp t b o
end Go.Sx
namespace Go.Proofs.YtbihckigennlhaaGreatDoor
open Go.Sx Go.Proofs
theorem axP(x f:dX)(b:Nat)(τ:Store):At Tryz.prog 118 [.agg x.cells,.lp 4 b 0] (.v (.bool (decide (x.name=f.name)))) ((4,b,bN.cells f.cells)::τ):=by
 refine At.cY (fun _=>0) Tryz.func118 Uv VF (Z8 rfl) ?_
 repeat'(first|exact .nil|refine .k0 ?_|refine .k1 ?_|refine .k2 ?_|refine .k7 ?_|refine .r1 ?_ ?_|(refine .m1 ?_ ?_;intro b)|fail)
 all_goals(try simp only[BL]at *)
 ·exact Sx.Fin.intro Zs rfl
theorem aaW(fs:List dX)(f:dX)(b:Nat)(τ:Store):At Tryz.prog 162 [.sl false 4 (fs.map dX.cells),.v (.func (.func 118) #[] #[.pointer (some ⟨b,0,none⟩)])] (iv (firstIdx (fun x=>decide (x.name=f.name)) fs 0)) ((4,b,bN.cells f.cells)::τ):=by
 refine At.cY (fun _=>0) Tryz.func162 UF VQ (Z8 rfl) ?_
 repeat'(first|exact .nil|refine .k0 ?_|refine .k1 ?_|refine .k2 ?_|refine .k6 ?_|refine .r1 ?_ ?_|(refine .m2 ?_ ?_;intro hlen)|fail)
 all_goals(try simp only[BL]at *)
 refine cQ (fun n rg σ'=>∃ i:Nat,i≤fs.length∧n=fs.length-i∧(∀ j,j<i→¬(fs.getD j default).name=f.name)∧σ'=(4,b,bN.cells f.cells)::τ∧rg=[(0,.sl false 4 (fs.map dX.cells)),(1,.v (.func (.func 118) #[] #[.pointer (some ⟨b,0,none⟩)])),(7,iv fs.length),(8,iv i)]) fs.length rfl ⟨_,_,Zr,Zs,0,ZK _,rfl,fun j hj=>absurd hj (by omega),rfl,rfl⟩ ?_
 rintro n _ _ ⟨i,hi,hn,hp,rfl,rfl⟩
 repeat'(first|exact .nil|refine .k0 ?_|refine .k1 ?_|refine .k2 ?_|refine .k6 ?_|refine .k7 ?_|refine .k8 ?_|refine .k9 ?_|(refine .cd ?_ ?_<;>(intro hc;skip))|refine .r1 ?_ ?_|refine .t1 ?_ ?_ ?_|fail)
 try any_goals(exact Zo)
 all_goals(try simp only[BL]at *)
 refine Q5 rfl rfl (by rfl) (fun _=>(axP (fs.getD i default) f b τ).wk (bH.cons (Wk.refl _) (bH.cons (Wk.ptr _ _ _) bH.nil))) OB.nil ?_
 repeat'(first|exact .nil|refine .k0 ?_|refine .k1 ?_|refine .k2 ?_|refine .k7 ?_|refine .k9 ?_|(refine .cd ?_ ?_<;>(intro hc;skip))|refine .r1 ?_ ?_|fail)
 all_goals(try simp only[BL]at *)
 ·rw[AO (p:=fun x:dX=>decide (x.name=f.name)) (l:=fs) (k:=0) (i:=i) (fun j hj=>Zp (hp j hj)) (by omega) (Zi hc),Zh]
  exact Zw
 ·refine⟨fs.length-(i+1),by omega,_,_,Zr,Zs,i+1,by omega,rfl,gW hp hc,rfl,by rw[eD (by omega) hlen]⟩
 ·rw[AQ (fun y hy=>Zp (rG (p:=fun y:dX=>¬y.name=f.name) (fun j hj=>hp j (by omega)) y hy))]
  exact Zw
theorem U2(fs:List dX)(f:dX)(b:Nat)(τ:Store):At Tryz.prog 117 [.sl false 4 (fs.map dX.cells),.v (.func (.func 118) #[] #[.pointer (some ⟨b,0,none⟩)])] (.v (.bool (decide (∃ x∈fs,x.name=f.name)))) ((4,b,bN.cells f.cells)::τ):=by
 refine At.cY (fun _=>0) Tryz.func117 Uu VE (Z8 rfl) ?_
 repeat'(first|exact .nil|refine .k0 ?_|refine .k1 ?_|refine .k2 ?_|refine .r1 ?_ ?_|fail)
 all_goals(try simp only[BL]at *)
 refine H6 rfl (fun _=>aaW fs f b τ) OB.nil ?_
 repeat'(first|exact .nil|refine .k0 ?_|refine .k1 ?_|refine .k7 ?_|refine .r1 ?_ ?_|fail)
 all_goals(try simp only[BL]at *)
 ·refine Sx.Fin.intro Zs (bd ?_)
  rw[ZB,AP]
  simp only[ZB]
def qw(prev:List dX)(f:dX):Int:=if¬Name f.name then 3 else if∃ x∈prev,x.name=f.name then 121 else il f.type
def lD:List dX→List dX→Int
 |_,[]=>0
 |prev,f::l=>if qw prev f=0 then lD (prev++[f]) l else qw prev f
def l6(t:gp):Int:=
 if¬(Name t.name∧Name t.oX∧0≤t.keep∧t.keep≤1099511627776)then 3 else if t.fields.length>8 then 2 else lD [] t.fields
theorem Wz{u:List dX}{i:Nat}(hi:i<u.length)(h:qw (u.take i) (u.getD i default)=0):lD (u.take i) (u.drop i)=lD (u.take (i+1)) (u.drop (i+1)):=by
 rw[qp hi,lD,if_pos h,GD hi]
theorem DT{u:List dX}{i:Nat}{e:Int}(hi:i<u.length)(h:qw (u.take i) (u.getD i default)=e)(he:e≠0):lD (u.take i) (u.drop i)=e:=by
 rw[qp hi,lD,if_neg (by rw[h];exact he),h]
theorem ays(t:gp):Pure Tryz.prog 68 [.agg t.cells] (iv (l6 t)):=by
 refine k68.p fun σ=> ?_
 repeat'(first|exact .nil|refine .k0 ?_|refine .k1 ?_|refine .k2 ?_|refine .k4 ?_|refine .k6 ?_|refine .k7 ?_|refine .k9 ?_|(refine .cd ?_ ?_<;>(intro hc;skip))|refine .r1 ?_ ?_|(refine .m1 ?_ ?_;intro b)|(refine .m2 ?_ ?_;intro hlen)|refine .an rfl (by intro aF;first|exact vR _|fail) ?_ ?_|fail)
 try any_goals(exact Zo)
 all_goals(try simp only[BL]at *)
 ·refine Sx.Fin.intro Zs (bi ?_)
  unfold l6;rw[if_pos (by grind)]
 ·refine Sx.Fin.intro Zs (bi ?_)
  unfold l6;rw[if_neg (by grind),if_pos (by omega)]
 rename_i h1 h2
 have hu:l6 t=lD [] t.fields:=by unfold l6;rw[if_neg (by grind),if_neg (by omega)]
 refine cQ (fun n rg σ'=>∃ (i:Nat),i≤t.fields.length∧n=t.fields.length-i∧l6 t=lD (t.fields.take i) (t.fields.drop i)∧σ'=(1,b,bN.cells t.cells)::σ∧rg=[(1,.lp 1 b 0),(31,.sl false 4 (t.fields.map dX.cells)),(32,iv t.fields.length),(33,iv i)]) t.fields.length rfl ⟨_,_,Zr,Zs,0,ZK _,rfl,hu,rfl,rfl⟩ ?_
 rintro n _ _ ⟨i,hi,hn,hp,rfl,rfl⟩
 repeat'(first|exact .nil|refine .k0 ?_|refine .k1 ?_|refine .k2 ?_|refine .k6 ?_|refine .k7 ?_|refine .k8 ?_|refine .k9 ?_|(refine .cd ?_ ?_<;>(intro hc;skip))|refine .r1 ?_ ?_|(refine .l1 ?_;intro b)|refine .t1 ?_ ?_ ?_|refine .t2 ?_ ?_ ?_|refine .an rfl (by intro aF;first|exact vR _|fail) ?_ ?_|fail)
 try any_goals(exact Zo)
 all_goals(try simp only[BL]at *)
 ·rw[hp,DT (e:=3) (by omega) (if_pos hc) (by decide)]
  exact Zw
 refine H6 rfl (fun _=>U2 (t.fields.take i) (t.fields.getD i default) _ _) OB.nil ?_
 repeat'(first|exact .nil|refine .k0 ?_|refine .k1 ?_|refine .k2 ?_|refine .k7 ?_|refine .k9 ?_|(refine .cd ?_ ?_<;>(intro hc;skip))|refine .r1 ?_ ?_|refine .an rfl (by intro aF;exact Pw (t.fields.getD i default).type) ?_ ?_|fail)
 all_goals(try simp only[BL]at *)
 ·rw[hp,DT (e:=121) (by omega) (by unfold qw;rw[if_neg (fun h=>h ‹_›),if_pos hc]) (by decide)]
  exact Zw
 ·rw[hp,DT (by omega) (by unfold qw;rw[if_neg (fun h=>h ‹_›),if_neg ‹_›]) hc]
  exact Zw
 ·refine⟨t.fields.length-(i+1),by omega,_,_,Zr,Zs,i+1,by omega,rfl,?_,rfl,by rw[eD (n:=t.fields.length) (by omega) (by assumption)]⟩
  rw[hp,Wz (by omega) (by unfold qw;rw[if_neg (fun h=>h ‹_›),if_neg ‹_›];exact hc)]
 ·rw[hp,Yb (by omega),lD]
  exact Zw
def jX(f:dX):af:=⟨#[32]⟩++(f.name++(⟨#[58,32]⟩++tX f.type))
def tU(t:gp):af:=⟨#[116,97,98,108,101,32]⟩++(t.name++(⟨#[32,111,102,32]⟩++(t.oX++(⟨#[32,123]⟩++(tj (t.fields.map jX) ⟨#[44]⟩++(⟨#[32,125]⟩++((if t.keep=0 then⟨#[]⟩else⟨#[32,107,101,101,112,32]⟩++jg t.keep)++⟨#[59]⟩)))))))
theorem Ku:∀ (l p:List dX),lD p l=0→∀ f∈l,Name f.name∧il f.type=0
 |[],_,_,f,hf=>absurd hf (by simp)
 |g::l,p,h,f,hf=>by
  rw[lD]at h
  split at h
  ·rename_i h0
   rcases ZV.1 hf with rfl|hf
   ·unfold qw at h0
    split at h0
    ·omega
    ·rename_i hn
     split at h0
     ·omega
     ·exact⟨Y4.1 hn,h0⟩
   ·exact Ku l _ h f hf
  ·rename_i h0;exact absurd h h0
structure uE(t:gp):Prop where
 n:t.name.size≤24
 e:t.oX.size≤24
 k:0≤t.keep∧t.keep≤1099511627776
 l:t.fields.length≤8
 f:∀ f∈t.fields,Name f.name∧il f.type=0
theorem uE.of{t:gp}(h:l6 t=0):uE t:=by
 unfold l6 at h
 split at h
 ·omega
 ·rename_i h1
  have h1:=Y4.1 h1
  split at h
  ·omega
  ·exact⟨h1.1.1.2.1,h1.2.1.1.2.1,h1.2.2,by omega,Ku _ _ h⟩
theorem Pv{t:Ty}(h:il t=0):(tX t).size≤220:=by
 obtain⟨hu,hl,ho⟩:=Pu h
 have:=zL hu hl
 unfold tX
 repeat' split
 all_goals first|decide|((simp only[Z9,Z4,Z7,Z3,ZT,bK,bC,du,ZY];omega))
theorem WC{f:dX}(h:Name f.name∧il f.type=0):(jX f).size≤250:=by
 have h1:=Pv h.2
 have h2:=h.1.1.2.1
 unfold jX
 ((simp only[Z9,Z4,Z7,Z3,ZT,bK,bC,du,ZY];omega))
theorem O7{t:gp}(h:uE t):(Lib.join ((t.fields.map jX).map (·.data.toList)) (⟨#[44]⟩:af).data.toList).length≤3000:=by
 have h1:=Mt (t.fields.map jX) ⟨#[44]⟩
 have h2:=Fy jX 250 fun f hf=>WC (h.f f hf)
 have h3:(⟨#[44]⟩:af).size=1:=rfl
 rw[Z3,h3]at h1
 have:=h.l
 omega
theorem ayr{t:gp}(h:uE t):(tj (t.fields.map jX) ⟨#[44]⟩).size≤3000:=O7 h
theorem ayq{t:gp}{i:Nat}(hT:uE t)(h:i<t.fields.length):(∀ f∈(t.fields.getD i default).type.unit,gn f)∧(t.fields.getD i default).type.unit.length≤4∧(t.fields.getD i default).type.of.size≤100∧(t.fields.getD i default).name.size≤24∧(tX (t.fields.getD i default).type).size≤220:=by
 have h1:=hT.f _ (cW h)
 obtain⟨hu,hl,ho⟩:=Pu h1.2
 exact⟨hu,hl,ho,h1.1.1.2.1,Pv h1.2⟩
theorem WB(f:dX):eG [⟨#[32]⟩,f.name,⟨#[58,32]⟩,tX f.type]=jX f:=by simp only[eG,jX,iA]
theorem aef{fs:List dX}{i:Nat}(h:i<fs.length):((fs.take i).map jX).map dL++[[.v (.string (jX (fs.getD i default)))]]=((fs.take (i+1)).map jX).map dL:=by
 rw[GD h];simp[dL]
theorem O9(t:gp):Pure Tryz.prog 27 [.agg t.cells] (.aI [sv (if l6 t=0 then tU t else⟨#[]⟩),iv (l6 t)]):=by
 refine k27.p fun σ=> ?_
 repeat'(first|exact .nil|refine .k0 ?_|refine .k1 ?_|refine .k2 ?_|refine .k6 ?_|refine .k7 ?_|refine .k9 ?_|(refine .cd ?_ ?_<;>(intro hc;skip))|refine .r1 ?_ ?_|(refine .m1 ?_ ?_;intro b)|(refine .m2 ?_ ?_;intro hlen)|refine .an rfl (by intro aF;first|exact ays t|fail) ?_ ?_|fail)
 all_goals(try simp only[BL]at *)
 ·refine Sx.Fin.intro Zs (uM ?_ rfl)
  exact(if_neg hc).symm
 have hT:=uE.of hc
 have hTn:=hT.n
 have hTe:=hT.e
 have KY:=hT.k
 have hTl:=hT.l
 have hTz:=ayr hT
 have hj:(tj [] (⟨#[44]⟩:af)).size=0:=rfl
 have hTq:=yA t.keep (by omega)
 rw[if_pos hc,hc]
 refine cQ (fun n rg σ'=>∃ i:Nat,i≤t.fields.length∧n=t.fields.length-i∧((i=0∧σ'=(1,b,bN.cells t.cells)::σ∧rg=[(1,.lp 1 b 0),(5,.v (.slice none 0 0)),(14,.sl false 4 (t.fields.map dX.cells)),(15,iv t.fields.length),(16,iv i)])∨(0<i∧∃ b' v c,σ'=(29,b',.tail v c)::(1,b,bN.cells t.cells)::σ∧rg=[(1,.lp 1 b 0),(5,.own 1 29 b' v c (((t.fields.take i).map jX).map dL)),(14,.sl false 4 (t.fields.map dX.cells)),(15,iv t.fields.length),(16,iv i)]))) t.fields.length rfl ⟨_,_,Zr,Zs,0,ZK _,rfl,.inl ⟨rfl,rfl,rfl⟩⟩ ?_
 rintro n _ _ ⟨i,hi,hn,⟨h0,rfl,rfl⟩|⟨h0,b0,v0,c0,rfl,rfl⟩⟩
 all_goals have hf:=fun h=>ayq (i:=i) hT h
 all_goals have pn:=fun h=>(hf h).2.2.2.1
 all_goals have tc:=fun h=>(hf h).2.2.2.2
 repeat'(first|exact .nil|refine .k0 ?_|refine .k1 ?_|refine .k2 ?_|refine .k4 ?_|refine .k5 ?_|refine .k6 ?_|refine .k7 ?_|refine .k8 ?_|refine .k9 ?_|(refine .cd ?_ ?_<;>(intro hc;skip))|refine .r1 ?_ ?_|(refine .l1 ?_;intro b)|refine .t1 ?_ ?_ ?_|refine .u1 ?_ ?_ ?_ (fun b u c=> ?_)|refine .u2 ?_ ?_ ?_ (fun b u c=> ?_)|refine .an rfl (by intro aF;first|exact vD _ (by first|omega|fail)|exact acd (t.fields.getD i default).type (hf (by(simp only[BL]at *;omega))).1 (hf (by(simp only[BL]at *;omega))).2.1 (hf (by(simp only[BL]at *;omega))).2.2.1|exact lM _ rfl (Z8 rfl) (by simp only[gh,bC,ZY,Z9,Z4,mn];first|omega|(simp only[BL]at *;omega))|(refine(yB [] ⟨#[44]⟩ false (by decide) (by decide)).wk ?_;(repeat' first|exact .refl _|exact .nil|refine .cons ?_ ?_|fail);done)|(refine(yB (t.fields.map jX) ⟨#[44]⟩ false (by rw[Z3];omega) (YG (O7 hT) (by decide))).wk (bH.cons (Wk.Nz (by rw[ZC (by(simp only[BL]at *;omega))])) (bH.cons (Wk.refl _) bH.nil)))) ?_ ?_|(show List.all _ _=true;rfl)|fail)
 try any_goals(exact Zo)
 all_goals(try simp only[BL]at *)
 any_goals((simp only[Z9,Z4,Z7,Z3,ZT,bK,bC,du,ZY];omega))
 all_goals have e:=fun h=>aef (fs:=t.fields) (i:=i) h
 all_goals try simp only[WB]
 ·subst h0
  refine⟨t.fields.length-(0+1),by omega,_,_,Zr,Zs,0+1,by omega,rfl,.inr ⟨by omega,_,_,_,rfl,?_⟩⟩
  rw[← e (by omega),eD (n:=t.fields.length) (by omega) (by assumption)];rfl
 ·have D1:t.fields=[]:=ZO (by omega)
  refine Sx.Fin.intro Zs (uM ?_ rfl)
  unfold tU
  rw[if_neg hc,D1]
  simp only[eG,iA,xo,oO,yz KY.1,YX]
 ·have D1:t.fields=[]:=ZO (by omega)
  refine Sx.Fin.intro Zs (uM ?_ rfl)
  unfold tU
  rw[if_pos hc,D1]
  simp only[eG,iA,xo,oO,YX]
 ·refine⟨t.fields.length-(i+1),by omega,_,_,Zr,Zs,i+1,by omega,rfl,.inr ⟨by omega,_,_,_,rfl,?_⟩⟩
  rw[← e (by omega),eD (n:=t.fields.length) (by omega) (by assumption)]
 ·refine Sx.Fin.intro Zs (uM ?_ rfl)
  unfold tU
  rw[if_neg hc]
  simp only[eG,iA,xo,oO,yz KY.1]
 ·refine Sx.Fin.intro Zs (uM ?_ rfl)
  unfold tU
  rw[if_pos hc]
  simp only[eG,iA,xo,oO]
end Go.Proofs.YtbihckigennlhaaGreatDoor
namespace Go.Sx
theorem bH.get{xs ys:List AV}(h:bH xs ys):xs.length=ys.length∧∀ j (h1:j<xs.length) (h2:j<ys.length),Wk xs[j] ys[j]:=by
 induction h with
 |nil=>exact⟨rfl,fun j h1=>absurd h1 (by simp)⟩
 |cons h t ih=>
  refine⟨by simp[ih.1],fun j h1 h2=> ?_⟩
  cases j with
  |zero=>exact h
  |succ j=>exact ih.2 j (by simpa using h1) (by simpa using h2)
inductive uG:List (List AV)→List (List AV)→Prop
 |nil:uG [] []
 |cons {x y:List AV} {xs ys:List (List AV)} (h:bH x y) (t:uG xs ys):uG (x::xs) (y::ys)
theorem uG.get{xs ys:List (List AV)}(h:uG xs ys):xs.length=ys.length∧∀ j (h1:j<xs.length) (h2:j<ys.length),bH xs[j] ys[j]:=by
 induction h with
 |nil=>exact⟨rfl,fun j h1=>absurd h1 (by simp)⟩
 |cons h t ih=>
  refine⟨by simp[ih.1],fun j h1 h2=> ?_⟩
  cases j with
  |zero=>exact h
  |succ j=>exact ih.2 j (by simpa using h1) (by simpa using h2)
theorem Wk.rows{nn:Bool}{n:Nat}{rows rows':List (List AV)}(h:uG rows rows'):Wk (.sl nn n rows) (.sl false n rows'):=fun M v hv=>by
 obtain⟨hl,hg⟩:=h.get
 cases hv with
 |nil _ _ a ha=>
  obtain rfl:rows'=[]:=ZO hl.symm
  exact .nil _ _ a (fun h=>nomatch h)
 |sl _ _ _ b off cap cs hsz hM hR hc hm=>
  rw[hl]
  refine .sl _ _ _ b off cap cs (fun i hi=> ?_) (fun k hk=>hM k (by rw[hl];exact hk)) (fun i hi j hj=> ?_) (by omega) hm
  ·have:=(hg i (by omega) hi).get.1
   rw[← this];exact hsz i (by omega)
  ·have EB:=(hg i (by omega) hi).get
   have:=hR i (by omega) j (by rw[EB.1];exact hj)
   exact EB.2 j (by rw[EB.1];exact hj) hj M _ this
end Go.Sx
namespace Go.Proofs.YtbihckigennlhaaGreatDoor
open Go.Sx Go.Proofs
abbrev aS:af:=⟨#[97]⟩
abbrev bS:af:=⟨#[98]⟩
abbrev cS:af:=⟨#[99]⟩
def JX:List aq:=[⟨⟨#[101,117,114]⟩,1⟩]
def Uq:Ex:=⟨1,⟨#[]⟩,⟨#[]⟩,⟨#[]⟩,⟨2,2,⟨#[]⟩⟩,JX,0,⟨0,0⟩,[]⟩
def azG:Ex:=⟨1,⟨#[]⟩,⟨#[]⟩,⟨#[]⟩,⟨2,0,⟨#[]⟩⟩,[],0,⟨0,0⟩,[]⟩
def ab8:Ex:=⟨1,⟨#[]⟩,⟨#[115,104,111,112]⟩,⟨#[]⟩,⟨5,0,⟨#[115,49]⟩⟩,[],0,⟨0,0⟩,[]⟩
def Uf:Ex:=⟨8,⟨#[]⟩,⟨#[]⟩,⟨#[]⟩,⟨0,0,⟨#[]⟩⟩,[],0,⟨0,0⟩,[vQ aS,vQ bS,vQ cS]⟩
def Vg:Ex:=⟨9,⟨#[]⟩,⟨#[]⟩,⟨#[]⟩,⟨0,0,⟨#[]⟩⟩,[],0,⟨0,0⟩,[Uf,azG]⟩
def acF:Ex:=⟨4,⟨#[]⟩,⟨#[114,97,110,107]⟩,⟨#[]⟩,⟨0,0,⟨#[]⟩⟩,[],0,⟨0,0⟩,[ab8]⟩
def Uo:Ex:=⟨5,⟨#[99,111,117,110,116]⟩,⟨#[]⟩,⟨#[99,108,105,99,107,115]⟩,⟨0,0,⟨#[]⟩⟩,[],0,⟨1,0⟩,[dD,dD]⟩
def adQ:Ex:=⟨5,⟨#[113,117,97,110,116,105,108,101]⟩,⟨#[]⟩,⟨#[99,97,108,108,115]⟩,⟨0,0,⟨#[]⟩⟩,[],950,⟨2,60⟩,[qv ⟨#[109,115]⟩,qv ⟨#[111,107]⟩]⟩
theorem yS{x:Ex}{s:af}(hs:x.size≤100)(h:qt x=s∧shape x=0):Pure Tryz.prog 31 [.agg x.row,sv s] (.v (.bool true)):=by
 have:=adI x hs s
 rwa [Zi h]at this
theorem adA:Pure Tryz.prog 31 [.agg Vg.row,sv ⟨#[40,105,102,32,97,32,116,104,101,110,32,98,32,101,108,115,101,32,99,41,32,100,101,102,97,117,108,116,32,48]⟩] (.v (.bool true)):=yS (by decide+kernel) (by decide+kernel)
theorem adB:Pure Tryz.prog 31 [.agg acF.row,sv ⟨#[114,97,110,107,32,111,102,32,40,64,115,104,111,112,32,34,115,49,34,41]⟩] (.v (.bool true)):=yS (by decide+kernel) (by decide+kernel)
theorem adz:Pure Tryz.prog 31 [.agg Uo.row,sv ⟨#[99,111,117,110,116,40,99,108,105,99,107,115,44,32,97,108,108,41]⟩] (.v (.bool true)):=yS (by decide+kernel) (by decide+kernel)
theorem adC:Pure Tryz.prog 31 [.agg adQ.row,sv ⟨#[113,117,97,110,116,105,108,101,40,99,97,108,108,115,44,32,109,115,44,32,57,53,48,44,32,115,108,105,100,105,110,103,32,54,48,32,119,104,101,114,101,32,111,107,41]⟩] (.v (.bool true)):=yS (by decide+kernel) (by decide+kernel)
def Cf:gp:=⟨⟨#[116]⟩,⟨#[117,115,101,114]⟩,[⟨⟨#[120]⟩,⟨3,JX,⟨#[]⟩⟩⟩,⟨⟨#[121]⟩,⟨1,[],⟨#[]⟩⟩⟩],9⟩
def Cg:gp:=⟨⟨#[116]⟩,⟨#[117,115,101,114]⟩,[],0⟩
theorem adD:Pure Tryz.prog 27 [.agg Cf.cells] (.aI [sv ⟨#[116,97,98,108,101,32,116,32,111,102,32,117,115,101,114,32,123,32,120,58,32,100,101,99,32,91,101,117,114,93,44,32,121,58,32,98,111,111,108,32,125,32,107,101,101,112,32,57,59]⟩,iv 0]):=by
 have:=O9 Cf
 rwa [show l6 Cf=0 by decide+kernel,if_pos rfl,show tU Cf=⟨#[116,97,98,108,101,32,116,32,111,102,32,117,115,101,114,32,123,32,120,58,32,100,101,99,32,91,101,117,114,93,44,32,121,58,32,98,111,111,108,32,125,32,107,101,101,112,32,57,59]⟩ by decide+kernel]at this
theorem adE:Pure Tryz.prog 27 [.agg Cg.cells] (.aI [sv ⟨#[116,97,98,108,101,32,116,32,111,102,32,117,115,101,114,32,123,32,125,59]⟩,iv 0]):=by
 have:=O9 Cg
 rwa [show l6 Cg=0 by decide+kernel,if_pos rfl,show tU Cg=⟨#[116,97,98,108,101,32,116,32,111,102,32,117,115,101,114,32,123,32,125,59]⟩ by decide+kernel]at this
theorem adF:Pure Tryz.prog 10 [.agg (qv ⟨#[120]⟩).row] (.aI [sv ⟨#[]⟩,iv 3]):=by
 have:=DL (qv ⟨#[120]⟩) (by decide+kernel)
 rwa [show qt (qv ⟨#[120]⟩)=⟨#[]⟩ by decide+kernel,show shape (qv ⟨#[120]⟩)=3 by decide+kernel]at this
theorem J1:Pure Tryz.prog 8 [] (.v (.bool true)):=by
 refine k8.p fun σ=> ?_
 repeat'(first|exact .nil|refine .k0 ?_|refine .k1 ?_|refine .k2 ?_|refine .k5 ?_|refine .k7 ?_|refine .k9 ?_|(refine .cd ?_ ?_<;>(intro hc;first|exact kt hc (by assumption)|skip))|refine .r1 ?_ ?_|(refine .l1 ?_;intro b)|refine .an rfl (by intro aF;first|exact acO _|exact Wv _|exact Po|exact Ps _ _ _|exact adg _ _|(refine(Ps ⟨#[42]⟩ (vQ bS) Uq).wk ?_;(repeat' first|exact .refl _|exact .nil|refine .cons ?_ ?_|refine .agg ?_|exact .sl|fail);done)|(refine(adA).wk ?_;((repeat' first|exact .refl _|exact .nil|refine .agg ?_|refine .cons ?_ ?_|refine .rows ?_);done))|(refine(adB).wk ?_;((repeat' first|exact .refl _|exact .nil|refine .agg ?_|refine .cons ?_ ?_|refine .rows ?_);done))|(refine(adz).wk ?_;((repeat' first|exact .refl _|exact .nil|refine .agg ?_|refine .cons ?_ ?_|refine .rows ?_);done))|(refine(adC).wk ?_;((repeat' first|exact .refl _|exact .nil|refine .agg ?_|refine .cons ?_ ?_|refine .rows ?_);done))|(refine(adD).wk ?_;((repeat' first|exact .refl _|exact .nil|refine .agg ?_|refine .cons ?_ ?_|refine .rows ?_);done))|(refine(adE).wk ?_;((repeat' first|exact .refl _|exact .nil|refine .agg ?_|refine .cons ?_ ?_|fail);done))|(refine(adF).wk ?_;((repeat' first|exact .refl _|fail);done))|exact yS (by decide+kernel) (by decide+kernel)) ?_ ?_|fail)
 all_goals try(exact absurd hc (by decide))
 any_goals exact Z8 rfl
 ·intro _;exact Z8 rfl
 ·exact Sx.Fin.intro Zs (congrArg (fun b=>AV.v (.bool b)) (by decide+kernel))
theorem Kj{x:Ex}(h:¬jA x 100<0):x.size≤100:=by
 have:=(DP x 100 (by decide)).2.2 (by omega)
 omega
theorem Name.size{s:af}(h:Name s):s.size≤24:=h.1.2.1
theorem mb.oR(f:mb):f.cells=[sv f.name,sv f.oX,iv f.type.kind,.sl false 2 (f.type.unit.map aq.cells),sv f.type.of,iv f.body.kind,sv f.body.op,sv f.body.name,sv f.body.table,iv f.body.val.kind,iv f.body.val.n,sv f.body.val.s,.sl false 2 (f.body.unit.map aq.cells),iv f.body.param,iv f.body.win.kind,iv f.body.win.size,.sl false 12 (f.body.args.map Ex.row),iv f.version]:=by rw[← Ex.oR];rfl
theorem Wf(x:Ex)(hs:x.size≤100):Pure Tryz.prog 10 [.agg x.lay] (.aI [sv (qt x),iv (shape x)]):=by have:=DL x hs;rwa [Ex.bX x]at this
def Qk(t:gp):Prop:=(∀ f∈t.fields,f.name.size≤100∧CW f.type)∧t.fields.length≤12∧t.name.size+t.oX.size≤200
instance (t:gp):Decidable (Qk t):=inferInstanceAs (Decidable (_∧_∧_))
def Qj(f:mb):Prop:=f.name.size+f.oX.size≤200∧CW f.type∧0≤jA f.body 80
instance (f:mb):Decidable (Qj f):=inferInstanceAs (Decidable (_∧_∧_))
theorem Kk(x:Ex)(hw:x.wt≤2 ^ 60)(n:Int)(hn: -1≤n∧n≤1000):Pure Tryz.prog 13 [.agg x.lay,iv n] (iv (jA x n)):=by have:=Wr x hw n hn;rwa [Ex.bX x]at this
set_option linter.unusedSectionVars false
set_option maxHeartbeats 8000000
theorem Wc(s:List UInt8)(nn:Bool):Sx.Pure Tryz.prog 9 [.sl nn 1 (s.map bn)] (AJ s):=Wd DZ Dh ac1 U8 s nn fun h=>ayL h
theorem Jp{α:Type}(f:List Tok→PR α)(z:α)(s:Bs):(jq f s).1.2=(mZ f z s).2.2:=by
 unfold jq mZ
 split
 ·rfl
 ·split
  ·rename_i h;rw[h]
  ·rename_i h;rw[h];simp only
   cases f (dh s).1 with
   |err p c=>rfl
   |ok a L=>
    rw[PR.aJ]
    simp only
    by_cases hk:(hd L).kind≠6
    ·rw[if_pos hk,if_pos hk];rfl
    ·rw[if_neg hk,if_neg hk]
theorem ay1{α:Type}(f:List Tok→PR α)(z:α)(s:Bs):(if(mZ f z s).2.2=0 then(jq f s).2.getD z else z)=(mZ f z s).1:=by
 rw[← Jp]
 unfold jq mZ
 split
 ·rfl
 ·split
  ·rename_i h;rw[h];simp
  ·rename_i h;rw[h];simp only
   cases f (dh s).1 with
   |err p c=>simp[PR.bind]
   |ok a L=>
    rw[PR.aJ]
    simp only
    by_cases hk:(hd L).kind≠6
    ·rw[if_pos hk,if_pos hk];rfl
    ·rw[if_neg hk,if_neg hk];rfl
theorem OJ{x:Ex}(h:shape x=0):x.size≤64:=by
 unfold shape at h
 split at h
 ·cases h
 ·omega
theorem DK{x:Ex}(h:shape x=0):qt x=text x:=if_pos h
theorem OI(x:Ex)(hs:x.size≤100):Sx.Pure Tryz.prog 14 [.agg x.lay] (iv (shape x)):=by have:=axU x (by omega);rwa [Ex.bX x]at this
theorem axQ(x y:Ex):Sx.Pure Tryz.prog 12 [.agg x.lay,.agg y.lay] (.v (.bool (decide (x=y)))):=by have:=OH x y;rwa [Ex.bX x,Ex.bX y]at this
set_option linter.unusedSectionVars false
set_option maxHeartbeats 8000000
def xG:Ex:= .mk 0 ⟨#[]⟩ ⟨#[]⟩ ⟨#[]⟩ v0 [] 0 w0 []
theorem P5:bH zE xG.row:=by
 refine .cons (.refl _) (.cons (.refl _) (.cons (.refl _) (.cons (.refl _) (.cons (.refl _) (.cons (.refl _) (.cons (.refl _) (.cons .nil (.cons (.refl _) (.cons (.refl _) (.cons (.refl _) (.cons .nil .nil)))))))))))
theorem Pure.PY{f:FuncId}{xs:List AV}{r r':AV}(h:Sx.Pure Tryz.prog f xs r)(hw:Wk r r'):Sx.Pure Tryz.prog f xs r':=
 ⟨fun σ=>(h.sp σ).weak fun q σ' ⟨e1,e2⟩=>⟨.ret r',σ,⟨rfl,rfl⟩,by subst e2;exact .refl _,by subst e1;exact hw⟩⟩
abbrev wZ(s:Bs):Ex×Int×Int:=mZ (bD N0 false) xG s
theorem We(s:List UInt8)(nn:Bool):∃ p,Sx.Pure Tryz.prog 9 [.sl nn 1 (s.map bn)] (.aI [.agg (wZ s).1.lay,iv p,iv (wZ s).2.2]):=by
 have hv:=ay1 (bD N0 false) xG s
 have hA:=Wc s nn
 have hc:=Jp (bD N0 false) xG s
 have el:(wZ s).1.lay=(wZ s).1.row:=(Ex.bX _).symm
 rw[el]
 unfold AJ at hA
 rw[hc]at hA
 by_cases h:(wZ s).2.2=0
 ·rw[if_pos h]at hA hv
  refine⟨0,Pure.PY hA ?_⟩
  rw[h]
  cases hB:(jq (bD N0 false) s).2 with
  |none=>
   rw[hB]at hv
   rw[← hv]
   exact .aI (.cons (.agg P5) (bH.refl _))
  |some a=>
   rw[hB]at hv
   rw[← hv]
   exact .aI (.cons (.agg (by rw[Option.elim_some,ZE];exact bH.refl _)) (bH.refl _))
 ·rw[if_neg h]at hA hv
  refine⟨(jq (bD N0 false) s).1.1,Pure.PY hA ?_⟩
  rw[← hv]
  exact .aI (.cons (.agg P5) (bH.refl _))
set_option linter.unusedSectionVars false
set_option maxHeartbeats 8000000
theorem TA(a b:af):(a++b).size=a.size+b.size:=bK a b
def pP(t:Tok):af:=if t.kind=4 then⟨#[34]⟩++t.text++⟨#[34]⟩else t.text
theorem B8(t:Tok):(pP t).data.toList=ar t:=by
 unfold pP ar
 split
 ·rw[rF,rF];simp
 ·rfl
theorem ayb(t:Tok):(pP t).size=(ar t).length:=by rw[pR,B8]
theorem adh(l:List UInt8):((l.map bn).all fun r=>r.all AV.one)=true:=ZF.2 fun r hr=>by obtain⟨x,_,rfl⟩:=YS.1 hr;rfl
theorem ax7(t:Tok)(h:(ar t).length≤100000):Sx.Pure Tryz.prog 50 [.agg t.cells] (sv (pP t)):=by
 unfold Tok.cells pP
 have e:t.text.data.toList.length=t.text.size:=rfl
 have h2:t.text.size≤100000:=by
  rw[← e]
  unfold ar at h
  split at h
  ·simp only[Z9,Z7,Z4]at h;omega
  ·exact h
 have e1:(⟨#[34]⟩:af).size=1:=rfl
 refine k50.p fun σ=> ?_
 repeat'(first|exact .nil|refine .k0 ?_|refine .k1 ?_|refine .k2 ?_|refine .k7 ?_|refine .k9 ?_|(refine .cd ?_ ?_<;>(intro hc;skip))|refine .r1 ?_ ?_|(refine .m1 ?_ ?_;intro b)|fail)
 all_goals(try simp only[BL]at *)
 ·rw[TA];omega
 ·omega
 ·exact Sx.Fin.intro Zs (by rw[if_pos hc])
 ·exact Sx.Fin.intro Zs (by rw[if_neg hc])
theorem ayK(src:List UInt8)(hl:src.length≤16384)(hb:(dh src).2=[])(nn:Bool):Sx.Pure Tryz.prog 15 [.sl nn 1 (src.map bn)] (.aI [.sl false 3 ((dh src).1.map Tok.cells),fE,iv 0]):=
 ⟨fun σ=>(GK DZ Dh src hl nn σ).weak fun x σ' ⟨cV,cF,h1,h2,h3⟩=>by
  rw[hb]at h1
  rcases h1 with⟨_,rfl,rfl⟩|⟨h,_⟩
  ·subst h2 h3;exact⟨_,_,⟨rfl,rfl⟩,.refl _,.refl _⟩
  ·exact absurd rfl h⟩
theorem Mr:∀ (L:List Tok) (t:Tok),L≠[]→dn (L++[t])=dn L++32::ar t
 |[],_,h=>absurd rfl h
 |[a],t,_=>rfl
 |a::b::L,t,_=>by
  have:=Mr (b::L) t (by simp)
  show ar a++32::dn (b::L++[t])=(ar a++32::dn (b::L))++32::ar t
  rw[this];simp
theorem OU:∀ (L:List Tok) (t:Tok),t∈L→(ar t).length≤(dn L).length
 |[],t,h=>by cases h
 |[a],t,h=>by
  rw[Y3.1 h];exact ZI _
 |a::b::L,t,h=>by
  show _≤(ar a++32::dn (b::L)).length
  rw[Z7,Z9]
  rcases ZV.1 h with rfl|h
  ·omega
  ·have:=OU (b::L) t h;omega
theorem Ms(L:List Tok)(i:Nat)(hi:i<L.length):(i=0→dn (L.take (i+1))=ar (L.getD i default))∧(0<i→dn (L.take (i+1))=dn (L.take i)++32::ar (L.getD i default)):=by
 have e:L.take (i+1)=L.take i++[L.getD i default]:=by rw[getD_eq hi,Zv hi]
 refine⟨fun h=> ?_,fun h=> ?_⟩
 ·subst h;rw[e];rfl
 ·rw[e,Mr]
  intro h2;have:=congrArg List.length h2;rw[ZT,Z4]at this;omega
theorem Mq(A:List Tok)(i:Nat)(hl:(dn A).length≤16000):(dn (A.take i)).length≤16000:=by
 by_cases h:i<A.length
 ·obtain⟨h1,h2⟩:=Ms A i h
  have ih:=Mq A (i+1) hl
  by_cases h0:i=0
  ·subst h0;show 0≤_;omega
  ·have e:=congrArg List.length (h2 (by omega))
   rw[Z7,Z9]at e
   omega
 ·rw[ZC (by omega)];exact hl
termination_by A.length-i
def yM(t:Tok):List Tok:=[⟨t.kind,t.text,0⟩,⟨6,⟨#[]⟩,((ar t).length:Int)⟩]
theorem ayM{t:Tok}(h:oJ t):dh (ar t)=(yM t,[]):=by
 have:=Pl (L:=[t]) (fun x hx=>by rw[Y3.1 hx];exact h)
 rw[show dn [t]=ar t from rfl]at this
 rw[this]
 unfold oy yM
 rw[Int.zero_add]
theorem abh(A L:List Tok)(hg:∀ t∈A,oJ t)(hl:(dn A).length≤16000)(hn:A.length≤16000)(hL:L.length=A.length+1)(ht:L.take A.length=A)(hk:(L.getD A.length default).kind=6)(hx:(L.getD A.length default).text=⟨#[]⟩):
  Sx.Pure Tryz.prog 16 [.sl false 3 (L.map Tok.cells)] (.aI [.sl false 1 ((dn A).map bn),iv 0]):=by
 have hb:∀ t∈A,(ar t).length≤16000:=fun t ht=>by have:=OU A t ht;omega
 have hT:∀ t∈A,Sx.Pure Tryz.prog 15 [.sl true 1 ((pP t).data.toList.map bn)] (.aI [.sl false 3 ((yM t).map Tok.cells),fE,iv 0]):=fun t h=>by
  have h1:=ayM (hg t h)
  have h2:=ayK (ar t) (by have:=hb t h;omega) (by rw[h1]) true
  rw[h1]at h2
  rw[B8];exact h2
 have hw:IntKind.i64.wrap ((L.length:Int)-1)=A.length:=by rw[aW (by omega)];omega
 refine k16.p fun σ=> ?_
 repeat'(first|exact .nil|refine .k0 ?_|refine .k1 ?_|refine .k2 ?_|refine .k3 ?_|refine .k4 ?_|refine .k6 ?_|refine .k9 ?_|(refine .cd ?_ ?_<;>(intro hc;skip))|refine .r1 ?_ ?_|(refine .m2 ?_ ?_;intro hlen)|refine .t1 ?_ ?_ ?_|refine .t2 ?_ ?_ ?_|fail)
 try any_goals(exact Zo)
 all_goals(try simp only[BL]at *)
 all_goals try simp only[hw,Y8,hk,hx,ht]at hc
 all_goals try simp only[hw,Y8,hk,hx,ht]
 rotate_left
 ·exfalso;simp only[not_true_eq_false,or_false]at hc;omega
 refine cQ (fun m rg σ'=>∃ i:Nat,i≤A.length∧m=A.length-i∧((i=0∧σ'=σ∧rg=[(2,.v (.slice none 0 0)),(37,.sl false 3 (A.map Tok.cells)),(38,iv A.length),(39,iv i)])∨(0<i∧∃ b v c,σ'=(83,b,.tail v c)::σ∧rg=[(2,.own 1 83 b v c ((dn (A.take i)).map bn)),(37,.sl false 3 (A.map Tok.cells)),(38,iv A.length),(39,iv i)]))) A.length rfl ⟨_,_,Zr,Zs,0,ZK _,rfl,.inl ⟨rfl,rfl,rfl⟩⟩ ?_
 rintro m _ _ ⟨i,hi,hm,⟨h0,rfl,rfl⟩|⟨h0,b0,v0,c0,rfl,rfl⟩⟩
 all_goals have fg:i<A.length→A.getD i default∈A:=fun h=>cW h
 all_goals clear hw ht hk hx
 all_goals have hsz:i<A.length→(pP (A.getD i default)).size≤16000∧(pP (A.getD i default)).data.toList≠[]∧(pP (A.getD i default)).data.toList=ar (A.getD i default):=fun h=>⟨by rw[ayb];exact hb _ (fg h),by rw[B8];exact(hg _ (fg h)).ne,B8 _⟩
 all_goals have Bk:=Ms A i
 all_goals have hlen:(dn (A.take i)).length≤16000:=Mq A i hl
 repeat'(first|exact .nil|refine .k0 ?_|refine .k1 ?_|refine .k2 ?_|refine .k3 ?_|refine .k5 ?_|refine .k6 ?_|refine .k7 ?_|refine .k8 ?_|refine .k9 ?_|(refine .cd ?_ ?_<;>(intro hc;skip))|refine .r1 ?_ ?_|(refine .l1 ?_;intro b)|(refine .m2 ?_ ?_;intro hlen)|refine .t1 ?_ ?_ ?_|refine .u1 ?_ ?_ ?_ (fun b u c=> ?_)|refine .u2 ?_ ?_ ?_ (fun b u c=> ?_)|refine .an rfl (by intro aF;first|exact ax7 (A.getD i default) (by have:=hb _ (fg (by(simp only[BL]at *;omega)));omega)|exact hT _ (fg (by(simp only[BL]at *;omega)))) ?_ ?_|refine .t7 ?_ ?_ ?_|refine .r2 ?_ ?_|refine .r8 ?_ ?_|(show List.all _ _=true;rfl)|fail)
 try any_goals(exact Zo)
 all_goals(try simp only[BL]at *)
 any_goals(simp only[Z3,Z7,Z9,Z4,← pR];omega)
 any_goals exact adh _
 ·exfalso;revert hc;simp[yM]
 ·exfalso;omega
 ·subst h0
  have kx:0<A.length:=by omega
  refine⟨A.length-(0+1),by omega,_,_,Zr,Zs,0+1,by omega,rfl,.inr ⟨by omega,_,_,_,rfl,?_⟩⟩
  rw[(Bk kx).1 rfl,(hsz kx).2.2,eD (n:=A.length) (by omega) (by unfold maxLen;omega)]
 ·exfalso;omega
 ·obtain rfl:A=[]:=ZO (by omega)
  show Sx.Fin _ _ _ _;exact Zw
 ·exfalso;revert hc;simp[yM]
 ·have kx:i<A.length:=by omega
  refine⟨A.length-(i+1),by omega,_,_,Zr,Zs,i+1,by omega,rfl,.inr ⟨by omega,_,_,_,rfl,?_⟩⟩
  rw[(Bk kx).2 h0,(hsz kx).2.2,eD (n:=A.length) (by omega) (by unfold maxLen;omega)]
  simp[bn]
 ·exfalso;omega
 ·exfalso;omega
 ·rw[show i=A.length by omega,List.take_length]
  show Sx.Fin _ _ _ _;exact Zw
theorem abf(A:List Tok)(p:Int)(hg:∀ t∈A,oJ t)(hl:(dn A).length≤16000)(hn:A.length≤16000):Sx.Pure Tryz.prog 16 [.sl false 3 ((A++[(⟨6,⟨#[]⟩,p⟩:Tok)]).map Tok.cells)] (.aI [.sl false 1 ((dn A).map bn),iv 0]):=by
 have e:(A++[(⟨6,⟨#[]⟩,p⟩:Tok)]).getD A.length default=⟨6,⟨#[]⟩,p⟩:=by simp
 exact abh A _ hg hl hn (by simp) (by simp) (by rw[e]) (by rw[e])
theorem ayJ(src:List UInt8)(hl:src.length≤16384)(nn:Bool):Sx.Pure Tryz.prog 15 [.sl nn 1 (src.map bn)] (.aI [.sl false 3 ((dh src).1.map Tok.cells),.sl false 2 ((dh src).2.map dw.cells),iv 0]):=
 ⟨fun σ=>(GK DZ Dh src hl nn σ).weak fun x σ' ⟨cV,cF,h1,h2,h3⟩=>by
  subst h2 h3
  refine⟨.ret _,σ,⟨rfl,rfl⟩,?_,?_⟩
  ·unfold Sx.Sub;rw[Y2];exact List.sublist_append_right _ _
  ·rcases h1 with⟨e,rfl,_⟩|⟨_,bb,u,c,rfl,_,_⟩
   ·rw[e];exact .aI (.cons (.refl _) (.cons .nil (.cons (.refl _) .nil)))
   ·exact .aI (.cons (.refl _) (.cons (.own _) (.cons (.refl _) .nil)))⟩
set_option linter.unusedSectionVars false
set_option maxHeartbeats 8000000
theorem KV{x:Ex}(h:shape x=0):(qt x).size≤16000:=by
 rw[DK h]
 have:=GF x false (Gq h)
 have:=OJ h
 omega
set_option linter.unusedSectionVars false
set_option maxHeartbeats 8000000
def aAd(t:Tok):Bool:=decide (t.kind=1) && (decide (t.text=gj) || decide (t.text=iw) || decide (∃ y∈jv,t.text=y))
theorem aAs(t:Tok):Sx.Pure Tryz.prog 51 [.agg t.cells] (.v (.bool (aAd t))):=by
 refine k51.p fun σ=> ?_
 repeat'(first|exact .nil|refine .k0 ?_|refine .k1 ?_|refine .k2 ?_|refine .k4 ?_|refine .k5 ?_|refine .k7 ?_|refine .r1 ?_ ?_|(refine .m1 ?_ ?_;intro b)|refine .an rfl (by intro aF;first|exact FM jv t.text|exact Tv) ?_ ?_|fail)
 all_goals(try simp only[BL]at *)
 all_goals(refine Sx.Fin.intro Zs (congrArg (fun b=>AV.v (.bool b)) ?_);unfold aAd;first|rfl|fail)
def aAa(L:List Tok)(i:Nat)(n:Int):Int:=
 if h:i<L.length then
  if gN (L.getD i default)=true∧(i=0∨aAd (L.getD (i-1) default)=false)then(if n=0 then(i:Int)else aAa L (i+1) (n-1))else aAa L (i+1) n
 else -1
termination_by L.length-i
theorem aAn(L:List Tok)(i:Nat)(n:Int):aAa L i n= -1∨∃ k:Nat,aAa L i n=k∧k<L.length∧gN (L.getD k default)=true:=by
 unfold aAa
 by_cases h:i<L.length
 ·rw[dif_pos h]
  split
  ·rename_i hp
   split
   ·exact .inr ⟨i,rfl,h,hp.1⟩
   ·exact aAn L (i+1) (n-1)
  ·exact aAn L (i+1) n
 ·rw[dif_neg h];exact .inl rfl
termination_by L.length-i
theorem aAW(L:List Tok)(n:Int)(hl:L.length≤100000)(hn:0≤n)(hm:n≤9223372036854775807):Sx.Pure Tryz.prog 17 [.sl false 3 (L.map Tok.cells),iv n] (iv (aAa L 0 n)):=by
 refine k17.p fun σ=> ?_
 repeat'(first|exact .nil|refine .k0 ?_|refine .k1 ?_|refine .k2 ?_|refine .k6 ?_|refine .r1 ?_ ?_|fail)
 all_goals(try simp only[BL]at *)
 refine cQ (fun m rg σ'=>∃ (i:Nat) (k:Int),i≤L.length∧m=L.length-i∧0≤k∧k≤9223372036854775807∧aAa L 0 n=aAa L i k∧σ'=σ∧rg=[(0,.sl false 3 (L.map Tok.cells)),(1,iv k),(5,iv i)]) L.length rfl ⟨_,_,Zr,Zs,0,n,ZK _,rfl,hn,hm,rfl,rfl,rfl⟩ ?_
 rintro m _ _ ⟨i,k,hi,EK,o7,hkm,ho,rfl,rfl⟩
 have hwl:∀ h:i<L.length,IntKind.i64.wrap ((i:Int)+1)=((i+1:Nat):Int):=fun h=>by rw[aW (by omega)];omega
 have hwk:k≠0→IntKind.i64.wrap (k-1)=k-1:=fun h=>aW (by omega)
 rcases Nat.lt_or_ge i L.length with aH|hge
 ·have hd:decide ((i:Int)<(L.length:Int))=true:=Zi (by omega)
  have xX:((decide ((L.getD ((i:Int)).toNat default).kind=5) && decide ((L.getD ((i:Int)).toNat default).text=⟨#[40]⟩) && (decide ((i:Int)=0) || !aAd (L.getD (IntKind.i64.wrap ((i:Int)-1)).toNat default))))=true↔(gN (L.getD i default)=true∧(i=0∨aAd (L.getD (i-1) default)=false)):=by
   unfold gN
   by_cases h0:i=0
   ·subst h0;simp
   ·have:(IntKind.i64.wrap ((i:Int)-1)).toNat=i-1:=by rw[aW (by omega)];omega
    rw[this]
    simp[h0]
  have E6:=aAa.eq_def L i k
  rw[dif_pos aH]at E6
  cases hg:(decide ((L.getD ((i:Int)).toNat default).kind=5) && decide ((L.getD ((i:Int)).toNat default).text=⟨#[40]⟩) && (decide ((i:Int)=0) || !aAd (L.getD (IntKind.i64.wrap ((i:Int)-1)).toNat default)))
  ·rw[hg]at xX
   rw[if_neg (fun h=>Bool.noConfusion (xX.2 h))]at E6
   repeat'(first|exact .nil|refine .k0 ?_|refine .k1 ?_|refine .k2 ?_|refine .k3 ?_|refine .k4 ?_|refine .k6 ?_|refine .k9 ?_|(refine .cd ?_ ?_<;>(intro hc;first|exact kf hc (by assumption)|exact kt hc (by assumption)|skip))|refine .r1 ?_ ?_|(refine .m2 ?_ ?_;intro hlen)|refine .t1 ?_ ?_ ?_|refine .an rfl (by intro aF;exact aAs _) ?_ ?_|fail)
   ·refine⟨L.length-(i+1),by omega,_,_,Zr,Zs,i+1,k,by omega,rfl,o7,hkm,by rw[ho,E6],rfl,?_⟩
    rw[hwl aH]
   all_goals first
    |(intro hh;exact⟨by omega,by omega⟩)
    |(intro hh;have h0:i≠0:=(fun e=>by subst e;simp at hh);rw[aW (by omega)];omega)
  ·rw[hg]at xX
   rw[if_pos (xX.1 rfl)]at E6
   repeat'(first|exact .nil|refine .k0 ?_|refine .k1 ?_|refine .k2 ?_|refine .k3 ?_|refine .k4 ?_|refine .k6 ?_|refine .k7 ?_|refine .k9 ?_|(refine .cd ?_ ?_<;>(intro hc;first|exact kf hc (by assumption)|skip))|refine .r1 ?_ ?_|(refine .m2 ?_ ?_;intro hlen)|refine .t1 ?_ ?_ ?_|refine .an rfl (by intro aF;exact aAs _) ?_ ?_|fail)
   ·rw[ho,E6,if_pos (of_decide_eq_true hc)]
    show Sx.Fin _ _ _ _;exact Zw
   ·have hk:k≠0:=of_decide_eq_false hc
    refine⟨L.length-(i+1),by omega,_,_,Zr,Zs,i+1,k-1,by omega,rfl,by omega,by omega,by rw[ho,E6,if_neg hk],rfl,?_⟩
    rw[hwl aH,hwk hk]
   all_goals first
    |(intro hh;exact⟨by omega,by omega⟩)
    |(intro hh;have h0:i≠0:=(fun e=>by subst e;simp at hh);rw[aW (by omega)];omega)
 ·have hd:decide ((i:Int)<(L.length:Int))=false:=Zp (by omega)
  have E6:=aAa.eq_def L i k
  rw[dif_neg (by omega)]at E6
  repeat'(first|exact .nil|refine .k0 ?_|refine .k1 ?_|refine .k2 ?_|refine .k7 ?_|refine .k8 ?_|(refine .cd ?_ ?_<;>(intro hc;first|exact kt hc (by assumption)|skip))|refine .r1 ?_ ?_|(refine .m2 ?_ ?_;intro hlen)|fail)
  rw[ho,E6]
  show Sx.Fin _ _ _ _;exact Zw
theorem aAD(L:List Tok)(i d:Nat)(j:Int)(h:i<L.length):eV (L.drop i) d j=if gN (L.getD i default)=true then eV (L.drop (i+1)) (d+1) (j+1)else if kI (L.getD i default)=true then(if d=1 then j else eV (L.drop (i+1)) (d-1) (j+1))else eV (L.drop (i+1)) d (j+1):=by
 have e:L.drop i=L.getD i default::L.drop (i+1):=by
  rw[Z1,Z6 h,ZE,Y9 h]
 rw[e];rfl
set_option linter.unusedSectionVars false
set_option maxHeartbeats 8000000
theorem aAE(L:List Tok)(a:Nat)(hl:L.length≤100000)(ha:a<L.length)(hp:gN (L.getD a default)=true):Sx.Pure Tryz.prog 18 [.sl false 3 (L.map Tok.cells),iv a] (iv (eV (L.drop a) 0 a)):=by
 refine k18.p fun σ=> ?_
 repeat'(first|exact .nil|refine .k0 ?_|refine .k1 ?_|refine .k2 ?_|refine .k6 ?_|refine .r1 ?_ ?_|fail)
 all_goals(try simp only[BL]at *)
 refine cQ (fun m rg σ'=>∃ (i d:Nat),i≤L.length∧m=L.length-i∧d≤i∧((i=a∧d=0)∨1≤d)∧eV (L.drop a) 0 a=eV (L.drop i) d i∧σ'=σ∧rg=[(0,.sl false 3 (L.map Tok.cells)),(5,iv d),(6,iv i)]) (L.length-a) rfl ⟨_,_,Zr,Zs,a,0,by omega,rfl,ZK _,.inl ⟨rfl,rfl⟩,rfl,rfl,rfl⟩ ?_
 rintro m _ _ ⟨i,d,hi,EK,K4,had,ho,rfl,rfl⟩
 rcases Nat.lt_or_ge i L.length with aH|hge
 ·have hd:decide ((i:Int)<(L.length:Int))=true:=Zi (by omega)
  have hwi:IntKind.i64.wrap ((i:Int)+1)=((i+1:Nat):Int):=by rw[aW (by omega)];omega
  have hwd:IntKind.i64.wrap ((d:Int)+1)=((d+1:Nat):Int):=by rw[aW (by omega)];omega
  have hwe:1≤d→IntKind.i64.wrap ((d:Int)-1)=((d-1:Nat):Int):=fun h=>by rw[aW (by omega)];omega
  have E6:=aAD L i d i aH
  have ei:((i:Int)+1)=((i+1:Nat):Int):=rfl
  cases hP:(decide ((L.getD ((i:Int)).toNat default).kind=5) && decide ((L.getD ((i:Int)).toNat default).text=⟨#[40]⟩))
  ·have hP':gN (L.getD i default)=false:=hP
   have Eo:1≤d:=by
    rcases had with⟨rfl,_⟩|h
    ·rw[hP']at hp;cases hp
    ·exact h
   rw[if_neg (by rw[hP'];decide)]at E6
   cases hQ:(decide ((L.getD ((i:Int)).toNat default).kind=5) && decide ((L.getD ((i:Int)).toNat default).text=⟨#[41]⟩))
   ·have hQ':kI (L.getD i default)=false:=hQ
    rw[if_neg (by rw[hQ'];decide)]at E6
    repeat'(first|exact .nil|refine .k0 ?_|refine .k1 ?_|refine .k2 ?_|refine .k3 ?_|refine .k4 ?_|refine .k6 ?_|refine .k9 ?_|(refine .cd ?_ ?_<;>(intro hc;first|exact kf hc (by assumption)|exact kt hc (by assumption)|skip))|refine .r1 ?_ ?_|(refine .m2 ?_ ?_;intro hlen)|refine .t1 ?_ ?_ ?_|fail)
    ·refine⟨L.length-(i+1),by omega,_,_,Zr,Zs,i+1,d,by omega,rfl,by omega,.inr Eo,by rw[ho,E6,ei],rfl,?_⟩
     rw[hwi]
    all_goals(intro hh;exact⟨by omega,by omega⟩)
   ·have hQ':kI (L.getD i default)=true:=hQ
    rw[if_pos hQ']at E6
    repeat'(first|exact .nil|refine .k0 ?_|refine .k1 ?_|refine .k2 ?_|refine .k3 ?_|refine .k4 ?_|refine .k6 ?_|refine .k7 ?_|refine .k9 ?_|(refine .cd ?_ ?_<;>(intro hc;first|exact kf hc (by assumption)|exact kt hc (by assumption)|skip))|refine .r1 ?_ ?_|(refine .m2 ?_ ?_;intro hlen)|refine .t1 ?_ ?_ ?_|fail)
    ·have iX:=of_decide_eq_true hc
     rw[hwe Eo]at iX
     rw[ho,E6,if_pos (by omega)]
     show Sx.Fin _ _ _ _;exact Zw
    ·have iX:=of_decide_eq_false hc
     rw[hwe Eo]at iX
     refine⟨L.length-(i+1),by omega,_,_,Zr,Zs,i+1,d-1,by omega,rfl,by omega,.inr (by omega),by rw[ho,E6,if_neg (by omega),ei],rfl,?_⟩
     rw[hwi,hwe Eo]
    all_goals(intro hh;exact⟨by omega,by omega⟩)
  ·have hP':gN (L.getD i default)=true:=hP
   have hQ:(decide ((L.getD ((i:Int)).toNat default).kind=5) && decide ((L.getD ((i:Int)).toNat default).text=⟨#[41]⟩))=false:=by
    simp only[Z0,ZB]at hP
    rw[hP.2]
    simp
   rw[if_pos hP']at E6
   repeat'(first|exact .nil|refine .k0 ?_|refine .k1 ?_|refine .k2 ?_|refine .k3 ?_|refine .k4 ?_|refine .k6 ?_|refine .k9 ?_|(refine .cd ?_ ?_<;>(intro hc;first|exact kf hc (by assumption)|exact kt hc (by assumption)|skip))|refine .r1 ?_ ?_|(refine .m2 ?_ ?_;intro hlen)|refine .t1 ?_ ?_ ?_|fail)
   ·refine⟨L.length-(i+1),by omega,_,_,Zr,Zs,i+1,d+1,by omega,rfl,by omega,.inr (by omega),by rw[ho,E6,ei],rfl,?_⟩
    rw[hwi,hwd]
   all_goals(intro hh;exact⟨by omega,by omega⟩)
 ·have hd:decide ((i:Int)<(L.length:Int))=false:=Zp (by omega)
  repeat'(first|exact .nil|refine .k0 ?_|refine .k1 ?_|refine .k2 ?_|refine .k7 ?_|refine .k8 ?_|(refine .cd ?_ ?_<;>(intro hc;first|exact kt hc (by assumption)|skip))|refine .r1 ?_ ?_|(refine .m2 ?_ ?_;intro hlen)|fail)
  rw[ho,Yb hge]
  show Sx.Fin _ _ _ _;exact Zw
set_option linter.unusedSectionVars false
set_option maxHeartbeats 8000000
theorem aAw(x:Ex)(n:Int)(hw:x.wt≤2 ^ 60)(h0:¬shape x=0∨n<0):Sx.Pure Tryz.prog 5 [.agg x.row,iv n] (.v (.bool true)):=by
 rw[Ex.bX x]
 refine k5.p fun σ=> ?_
 repeat'(first|exact .nil|refine .k0 ?_|refine .k1 ?_|refine .k2 ?_|refine .k4 ?_|refine .k7 ?_|refine .k9 ?_|(refine .cd ?_ ?_<;>(intro hc;skip))|refine .r1 ?_ ?_|(refine .m1 ?_ ?_;intro b)|refine .an rfl (by intro aF;first|exact J1|exact Kk x hw 100 (by decide)|exact OI x (Kj (by grind))) ?_ ?_|fail)
 try any_goals exact Zo
 all_goals(try simp only[BL]at *)
 all_goals first
  |(exfalso;rcases h0 with h0|h0<;>simp[h0]at hc;done)
  |(refine Sx.Fin.intro Zs (congrArg (fun b=>AV.v (.bool b)) ?_);first|rfl|fail)
theorem aAX(x:Ex)(n:Int)(hw:x.wt≤2 ^ 60)(h0:shape x=0)(hs:x.size≤100)(T:List (List AV))
  (hT:Sx.Pure Tryz.prog 15 [.sl true 1 ((qt x).data.toList.map bn)] (.aI [.sl false 3 T,.sl false 2 [],iv 0]))
  (hO:Sx.Pure Tryz.prog 17 [.sl false 3 T,iv n] (iv (-1))):Sx.Pure Tryz.prog 5 [.agg x.row,iv n] (.v (.bool true)):=by
 have hS:=KV h0
 have hg:(!decide ((0:Int)=0) || decide ((-1:Int)<0))=true:=rfl
 rw[Ex.bX x]
 refine k5.p fun σ=> ?_
 repeat'(first|exact .nil|refine .k0 ?_|refine .k1 ?_|refine .k2 ?_|refine .k4 ?_|refine .k7 ?_|refine .k9 ?_|(refine .cd ?_ ?_<;>(intro hc;first|exact kf hc (by assumption)|skip))|refine .r1 ?_ ?_|(refine .m1 ?_ ?_;intro b)|refine .an rfl (by intro aF;first|exact J1|exact Kk x hw 100 (by decide)|exact OI x (Kj (by grind))|exact Wf x hs|exact hT|exact hO) ?_ ?_|refine .t7 ?_ ?_ ?_|fail)
 try any_goals exact Zo
 all_goals(try simp only[BL]at *)
 all_goals first
  |omega
  |(exfalso;simp[h0]at hc;done)
  |(refine Sx.Fin.intro Zs (congrArg (fun b=>AV.v (.bool b)) ?_);first|rfl|fail)
theorem aAy(l:List Tok):((l.map Tok.cells).all fun r=>r.all AV.one)=true:=by
 rw[ZF]
 intro r hr
 obtain⟨t,_,rfl⟩:=YS.1 hr
 rfl
theorem aAY(x z:Ex)(n p cc:Int)(hw:x.wt≤2 ^ 60)(h0:shape x=0)(hs:x.size≤100)(hn:0≤n)(L:List Tok)(k m:Nat)(hkm:k<m)(hmL:m+1<L.length)(hL:L.length≤100000)(y:Bs)
  (hT:Sx.Pure Tryz.prog 15 [.sl true 1 ((qt x).data.toList.map bn)] (.aI [.sl false 3 (L.map Tok.cells),.sl false 2 [],iv 0]))
  (hO:Sx.Pure Tryz.prog 17 [.sl false 3 (L.map Tok.cells),iv n] (iv k))
  (hC:Sx.Pure Tryz.prog 18 [.sl false 3 (L.map Tok.cells),iv k] (iv m))
  (hJ:Sx.Pure Tryz.prog 16 [.sl false 3 ((L.map Tok.cells).take k++(((L.map Tok.cells).take m).drop (k+1)++(L.map Tok.cells).drop (m+1)))] (.aI [.sl false 1 (y.map bn),iv 0]))
  (hE:Sx.Pure Tryz.prog 9 [.sl false 1 (y.map bn)] (.aI [.agg z.lay,iv p,iv cc])) (hz:cc=0→z≠x):Sx.Pure Tryz.prog 5 [.agg x.row,iv n] (.v (.bool true)):=by
 have hS:=KV h0
 have hg:(!decide ((0:Int)=0) || decide ((k:Int)<0))=false:=by simp
 have qE:decide ((m:Int)<0)=false:=by simp
 have hwk:IntKind.i64.wrap ((k:Int)+1)=((k+1:Nat):Int):=by rw[aW (by omega)];omega
 have hwm:IntKind.i64.wrap ((m:Int)+1)=((m+1:Nat):Int):=by rw[aW (by omega)];omega
 have aAJ:(decide ((0:Int)=0) && (!decide (cc=0) || !decide (x=z)))=true:=by
  by_cases h:cc=0
  ·simp[h,Ne.symm (hz h)]
  ·simp[h]
 have hd:L.drop (m+1)≠[]:=fun e=>by have:=congrArg List.length e;simp at this;omega
 rw[Ex.bX x]
 refine k5.pc (fun d=>bif Nat.beq d 60 then 3 else bif ([64,70,76]:List Nat).elem d then 1 else 0) fun σ=> ?_
 repeat'(first|exact .nil|refine .k0 ?_|refine .k1 ?_|refine .k2 ?_|refine .k3 ?_|refine .k4 ?_|refine .k7 ?_|refine .k9 ?_|(refine .cd ?_ ?_<;>(intro hc;first|exact kt hc (by assumption)|skip))|refine .r1 ?_ ?_|(refine .l1 ?_;intro b)|(refine .m1 ?_ ?_;intro b)|refine .t3 ?_ ?_ ?_|refine .u2 ?_ ?_ ?_ (fun b u c=> ?_)|refine .u3 ?_ ?_ (fun hr0=> ?_) (fun aX b u c=> ?_)|refine .an rfl (by intro aF;first|exact J1|exact Kk x hw 100 (by decide)|exact OI x (Kj (by grind))|exact Wf x hs|exact hT|exact hO|exact hC|(refine hJ.wk (.cons (.Nz ?_) .nil);simp only[hwk,hwm,Option.getD_none,ZE,Y8,Int.toNat_zero,List.drop_zero,X9]at *;simp only[*,Ze,ZA];done)|exact hE|exact axQ x z) ?_ ?_|refine .t7 ?_ ?_ ?_|refine .r8 ?_ ?_|fail)
 all_goals first
  |(exfalso;simp[h0]at hc;done)
  |(simp[hwk,hwm];done)
  |(simp[hwk,hwm];omega)
  |(rw[hwm];exact aAy _)
  |(rw[← XZ,← X9];exact aAy _)
  |(exfalso;rw[hwm]at hr0;simp at hr0;omega)
  |(refine Sx.Fin.intro Zs (congrArg (fun b=>AV.v (.bool b)) ?_);rfl)
  |(rw[aAJ];exact Sx.Fin.intro Zs rfl)
theorem aA2(x:Ex)(n:Int)(hw:x.wt≤2 ^ 60)(hm:n≤9223372036854775807):Sx.Pure Tryz.prog 5 [.agg x.row,iv n] (.v (.bool true)):=by
 by_cases h0:shape x=0
 ·by_cases hn:0≤n
  ·have hs:=OJ h0
   obtain⟨A,hA⟩:=ayC (Gq h0) hs
   obtain⟨q,hq⟩:=hA.toks
   have hS:=KV h0
   have hT:=ayJ (bL (text x)) (by show(text x).size≤16384;rw[DK h0]at hS;omega) true
   rw[hq]at hT
   have kr:Sx.Pure Tryz.prog 15 [.sl true 1 ((qt x).data.toList.map bn)] (.aI [.sl false 3 ((A++[(⟨6,⟨#[]⟩,q⟩:Tok)]).map Tok.cells),.sl false 2 [],iv 0]):=by rw[DK h0];exact hT
   have EK:=MF A
   have hl:=hA.len
   have hlen:(A++[(⟨6,⟨#[]⟩,q⟩:Tok)]).length=A.length+1:=by simp
   have hO:=aAW (A++[(⟨6,⟨#[]⟩,q⟩:Tok)]) n (by omega) hn hm
   rcases aAn (A++[(⟨6,⟨#[]⟩,q⟩:Tok)]) 0 n with e|⟨k,e,hk,hp⟩
   ·rw[e]at hO
    exact aAX x n hw h0 (by omega) _ kr hO
   ·rw[e]at hO
    have hkA:k<A.length:=by
     refine Decidable.byContradiction fun hc=> ?_
     have:k=A.length:=by omega
     subst this
     rw[Z1,YR (ZI _),Nat.sub_self]at hp
     exact Bool.noConfusion hp
    have hpA:gN (A.getD k default)=true:=by
     rwa [Z1,Zk hkA,← Z1]at hp
    obtain⟨j,j0,j1,j2,j3⟩:=hA.xu k hkA hpA
    have hC:=aAE (A++[(⟨6,⟨#[]⟩,q⟩:Tok)]) k (by omega) hk hp
    rw[j3]at hC
    have hL:=aAZ hA (k:=k) (m:=k+j) (by omega) j1 hpA
    obtain⟨B,hB⟩:∃ B,A.take k++((A.drop (k+1)).take (k+j-(k+1))++A.drop (k+j+1))=B:=⟨_,rfl⟩
    rw[hB]at hL
    have eB:B++[(⟨6,⟨#[]⟩,q⟩:Tok)]=(A++[(⟨6,⟨#[]⟩,q⟩:Tok)]).take k++(((A++[(⟨6,⟨#[]⟩,q⟩:Tok)]).take (k+j)).drop (k+1)++(A++[(⟨6,⟨#[]⟩,q⟩:Tok)]).drop (k+j+1)):=by
     rw[← hB,YQ (by omega),YQ (by omega),List.drop_append_of_le_length (by omega),Yh]
     simp only[ZA]
    have b1:=Ft B
    have b2:=MF B
    have b3:=hL.len
    have hJ:=abf B q hL.good (by omega) (by omega)
    rw[eB]at hJ
    obtain⟨p,hE⟩:=We (dn B) false
    refine aAY x _ n p _ hw h0 (by omega) hn (A++[(⟨6,⟨#[]⟩,q⟩:Tok)]) k (k+j) (by omega) (by omega) (by omega) (dn B) kr hO (by exact_mod_cast hC) ?_ hE (hL.other xG)
    simpa only[Y2,XZ,X9]using hJ
  ·exact aAw x n hw (.inr (by omega))
 ·exact aAw x n hw (.inl h0)
theorem own:ownKnob Tryz.prog.godebug=none:=by kernel_rfl
theorem laidOut:laidOutB Tryz.prog=true:=by kernel_rfl
section
variable {H:Type}{enc:TypeId×Value→H}{W:World}
theorem tL(n:Nat):Rd enc Tryz.prog W n 3 fun l=>∃ z:Int,l=[iv z]:=(Rd.int Tryz.underlying3).mono fun l ⟨z,h,_⟩=>⟨z,h⟩
theorem aA4(n:Nat):Rd enc Tryz.prog W n 3 fun l=>∃ z:Int,l=[iv z]∧z≤9223372036854775807:=(Rd.int Tryz.underlying3).mono fun l ⟨z,h,hw⟩=>⟨z,h,by
 simp only[Lit.wf,Z0,ZB]at hw
 exact hw.2⟩
theorem yU(n:Nat):Rd enc Tryz.prog W n 9 fun l=>∃ s:af,l=[sv s]∧s.size≤reachBytes:=Rd.str Tryz.underlying9
theorem rd_val:∀ n:Nat,Rd enc Tryz.prog W n 25 fun l=>∃ v:ek,l=v.cells∧v.s.size≤reachBytes
 |0=>Rd.zero _ _
 |n+1=>(Rd.struct Tryz.underlying25 (by kernel_rfl) (.cons (tL n) (.cons (tL n) (.cons (yU n) .nil)))).mono (by
  rintro _ ⟨_,_,rfl,⟨a,rfl⟩,_,_,rfl,⟨b,rfl⟩,_,_,rfl,⟨c,rfl,hc⟩,rfl⟩
  exact⟨⟨a,b,c⟩,rfl,hc⟩)
theorem ad4:∀ n:Nat,Rd enc Tryz.prog W n 28 fun l=>∃ w:fq,l=w.cells
 |0=>Rd.zero _ _
 |n+1=>(Rd.struct Tryz.underlying28 (by kernel_rfl) (.cons (tL n) (.cons (tL n) .nil))).mono (by
  rintro _ ⟨_,_,rfl,⟨a,rfl⟩,_,_,rfl,⟨b,rfl⟩,rfl⟩
  exact⟨⟨a,b⟩,rfl⟩)
theorem adY:∀ n:Nat,Rd enc Tryz.prog W n 77 fun l=>∃ f:aq,l=f.cells
 |0=>Rd.zero _ _
 |n+1=>(Rd.struct Tryz.underlying77 (by kernel_rfl) (.cons (yU n) (.cons (tL n) .nil))).mono (by
  rintro _ ⟨_,_,rfl,⟨a,rfl,_⟩,_,_,rfl,⟨b,rfl⟩,rfl⟩
  exact⟨⟨a,b⟩,rfl⟩)
theorem adS:∀ n:Nat,Rd enc Tryz.prog W n 26 fun l=>∃ u:List aq,l=[.sl false 2 (u.map aq.cells)]
 |0=>Rd.zero _ _
 |n+1=>(Rd.slice Tryz.underlying26 (ag:=2) (by kernel_rfl) (by decide) (adY n)).mono (by
  rintro _ ⟨rows,rfl,_,h⟩
  obtain⟨ls,rfl,_⟩:=Gf (f:=aq.cells) (W:=fun _=>True) (fun r hr=>by obtain⟨x,h⟩:=h r hr;exact⟨x,h,trivial⟩)
  exact⟨ls,rfl⟩)
theorem azD{l:List Ex}{k:Nat}(h:∀ y∈l,y.wt≤k):Ex.uh l≤k:=by
 induction l with
 |nil=>exact ZK _
 |cons x l ih=>
  have h1:=h x (by simp)
  have h2:=ih fun y hy=>h y (by simp[hy])
  rw[Ex.uh];omega
mutual
theorem aAx:∀ n:Nat,Rd enc Tryz.prog W n 31 fun l=>∃ x:Ex,l=x.row∧x.wt≤2 ^ 60
 |0=>Rd.zero _ _
 |n+1=>(Rd.struct Tryz.underlying31 (by kernel_rfl) (.cons (tL n) (.cons (yU n) (.cons (yU n) (.cons (yU n) (.cons (rd_val n) (.cons (adS n) (.cons (tL n) (.cons (ad4 n) (.cons (adX n) .nil)))))))))).mono (by
  rintro _ ⟨_,_,rfl,⟨k,rfl⟩,_,_,rfl,⟨o,rfl,ho⟩,_,_,rfl,⟨nm,rfl,hn⟩,_,_,rfl,⟨t,rfl,ht⟩,_,_,rfl,⟨v,rfl,hv⟩,_,_,rfl,⟨u,rfl⟩,_,_,rfl,⟨p,rfl⟩,_,_,rfl,⟨w,rfl⟩,_,_,rfl,⟨ks,rfl,vm⟩,rfl⟩
  refine⟨⟨k,o,nm,t,v,u,p,w,ks⟩,(Ex.bX _).symm ▸ rfl,?_⟩
  rw[Ex.wt]
  have:=azD vm
  have hr:reachBytes≤2 ^ 47:=by decide
  omega)
theorem adX:∀ n:Nat,Rd enc Tryz.prog W n 29 fun l=>∃ ks:List Ex,l=[.sl false 12 (ks.map Ex.row)]∧∀ y∈ks,y.wt≤2 ^ 60
 |0=>Rd.zero _ _
 |n+1=>(Rd.slice Tryz.underlying29 (ag:=12) (by kernel_rfl) (by decide) (aAx n)).mono (by
  rintro _ ⟨rows,rfl,_,h⟩
  obtain⟨ls,rfl,hl⟩:=Gf (f:=Ex.row) (W:=fun y=>y.wt≤2 ^ 60) (fun r hr=>h r hr)
  exact⟨ls,rfl,hl⟩)
end
end
end Go.Proofs.YtbihckigennlhaaGreatDoor
namespace Go.Proofs.YtbihckigennlhaaGreatDoor
open Go.Sx Go.Proofs Go.Lib
theorem FY{W:World}{g:Nat}{x:AV}{v:Value}(hc:W.cell? ⟨g,0,none⟩=some v)(h:R (M0 W) x v):R (M0 W) (.pc [x]) (.pointer (some ⟨g,0,none⟩)):=by
 refine .pc [x] g 0 (fun _=>v) (fun k hk=> ?_) (fun k hk=> ?_)
 ·obtain rfl:k=0:=by simpa using hk
  exact hc
 ·obtain rfl:k=0:=by simpa using hk
  exact h
def vJ(s:af):DataW Unit:= .lit (.string s.data.toList)
theorem ayl{enc:TypeId×Value→Unit}{P:Program}[Glob P]{W:World}{t e:TypeId}{fuel:Nat}{held:Bool}{cs:List Value}{p:List MemPlace}{ss:List af}(ht:P.underlying t=some (.slice e))(he:P.underlying e=some .string)(XH:P.cellsOf e=1)
  (h0:ss≠[]) (hx:DataW.trod enc P W 0 (fun _=>true) held fuel t cs=some (.slice (ss.map vJ) [],p)):∃ v,cs=[v]∧R (M0 W) (.sl false 1 (ss.map dL)) v:=by
 rcases DataW.trod_slice ht hx with⟨_,h⟩|⟨a,len,cap,elems,rest,m,rfl,rfl,dm,_,hlc,mz,hlen,nL,eZ,_⟩
 ·cases h
 ·simp only[Y6,DataW.slice.injEq]at dm
  have K8:=dm.1.1
  have hl:elems.length=ss.length:=by
   have:=congrArg List.length K8
   simpa using this.symm
  have nW:0<ss.length:=Y1.2 h0
  have cell:∀ i (hi:i<ss.length),W.cell? (a.add i)=some (.string (ss.getD i ⟨#[]⟩)):=by
   intro i hi
   have h1:=nL i (by omega)
   have hie:i<elems.length:=by omega
   rw[Z6 hie,Option.bind_eq_some_iff]at h1
   obtain⟨cs',hc,pk⟩:=h1
   obtain⟨s,rfl,hs,_⟩:=Pn he pk
   obtain⟨g1,g2⟩:=Dv hc
   have g3:=g2 0 (by omega)
   have e1:(elems.map (·.1))[i]'(by simpa using hie)=vJ (ss[i]'hi):=by
    have:(ss.map vJ)[i]'(by simpa using hi)=vJ (ss[i]'hi):=by rw[Zg]
    rw[← this]
    exact List.getElem_of_eq K8.symm _
   rw[Zg,hs]at e1
   simp only[vJ,DataW.lit.injEq,Lit.string.injEq]at e1
   have e2:s=ss[i]'hi:=pQ e1
   rw[XH,XU]at g3
   have e3:(a.add i).add 0=a.add i:=by rw[Go.Deep.add_add];rfl
   rw[e3]at g3
   rw[g3,e2,Z1,Z6 hi];rfl
  have pj:a.spot=none:=by
   have:=Gv (cell 0 nW)
   simpa[Addr.add]using this
  obtain⟨b,o,s⟩:=a
  simp only at pj
  subst pj
  refine⟨_,rfl,?_⟩
  have o9:(ss.map dL).length=len:=by rw[Z3];omega
  have:=R.lS (M:=M0 W) (b:=b) (off:=o) (cap:=cap) (ag:=1) (rows:=ss.map dL) (cs:=fun k=> .string (ss.getD k ⟨#[]⟩)) ⟨fun i hi=> ?_,fun k hk=> ?_,fun i hi j hj=> ?_⟩ (by omega) mz false
  ·rw[o9]at this;exact this
  ·rw[Zg];rfl
  ·have:=cell k (by simpa using hk)
   rw[Addr.add_lit]at this
   exact this
  ·have cH:i<ss.length:=by simpa using hi
   simp only[Zg,dL,Z9,Z4]at hj ⊢
   obtain rfl:j=0:=by omega
   rw[Z1,XU,YN,Z6 cH]
   exact .v _
theorem DY{W:World}{name:String}{G:Nat}{d:DataW Unit}{ss:List af}(h:VarReads Tryz.prog W name d)(hg:Tryz.prog.globalNamed name=some G)(qP:(Tryz.prog.globals[G]?).map (·.type)=some 128)(hd:d= .slice (ss.map vJ) [])(h0:ss≠[]):
  R (M0 W) (.pc [.sl false 1 (ss.map dL)]) (.pointer (some ⟨G,0,none⟩)):=by
 obtain⟨g,t,cs,fuel,p,h1,h2,h3,h4⟩:=h
 obtain rfl:=Zf (hg.symm.trans h1)
 obtain rfl:=Zf (qP.symm.trans h2)
 rw[hd]at h4
 obtain⟨v,hv,hR⟩:=ayl Tryz.underlying128 Tryz.underlying9 (by kernel_rfl) h0 h4
 refine FY ?_ hR
 rw[World.var?_cell hg h3 0]
 have:=congrArg (·[0]?) hv
 simpa using this
theorem NK{W:World}{g:Nat}{vs:List Value}(hc:∀ k (h:k<vs.length),W.cell? ⟨g,k,none⟩=some vs[k]):R (M0 W) (.pc (vs.map AV.v)) (.pointer (some ⟨g,0,none⟩)):=by
 refine .pc _ g 0 (fun k=>vs.getD k undef) (fun k hk=> ?_) (fun k hk=> ?_)
 ·have bY:k<vs.length:=by simpa using hk
  rw[Zh,Z1,Z6 bY]
  exact hc k bY
 ·have bY:k<vs.length:=by simpa using hk
  rw[Zg,Z1,Z6 bY]
  exact .v _
theorem Gz{W:World}{name:String}{d:DataW Unit}{G:Nat}{t e:TypeId}{n:Nat}{k:IntKind}{zs:List Int}(h:VarReads Tryz.prog W name d)(hd:d=tabData k zs)(hG:Tryz.prog.globalNamed name=some G)(qP:(Tryz.prog.globals[G]?).map (·.type)=some t)
  (ht:Tryz.prog.underlying t=some (.array n e)) (he:Tryz.prog.underlying e=some (.int k)) (h1:Tryz.prog.cellsOf e=1) (hn:Tryz.prog.cellsOf t=n):TabIs Tryz.prog W name k zs:=by
 obtain⟨g,t',cs,fuel,p,g1,g2,g3,g4⟩:=h
 obtain rfl:=Zf (hG.symm.trans g1)
 obtain rfl:=Zf (qP.symm.trans g2)
 rw[hd]at g4
 have:=cells_of_tab ht he h1 hn g4
 unfold TabIs
 rw[g3,← this]
theorem NJ{W:World}{name:String}{G:Nat}{k:IntKind}{zs:List Int}(h:TabIs Tryz.prog W name k zs)(hG:Tryz.prog.globalNamed name=some G):R (M0 W) (.pc ((zs.map fun z=>Value.int k z).map AV.v)) (.pointer (some ⟨G,0,none⟩)):=by
 refine NK fun i hi=> ?_
 have cH:i<zs.length:=by simpa using hi
 have:=h.cell hG i cH
 rw[this]
 simp[cH]
theorem aAI{W:World}(hL:laidMet Tryz.prog Rows.printerParensRow.laid W)(hsh:W.ShapedOpen Tryz.prog):CX Tryz.prog W:=by
 have EW:=laidMet.reads hL (n:= "internal/strconv.uint64pow10") (d:=Rows.laid_internal_strconv_uint64pow10) (by simp[Rows.printerParensRow])
 refine⟨fun g l h=> ?_,?_,?_⟩
 ·simp only[Glob.av]at h
  split at h
  ·cases h
   exact DY (laidMet.reads hL (n:= "asof/checker.aggregates") (d:=Rows.laid_asof_checker_aggregates) (by simp[Rows.printerParensRow])) (by kernel_rfl) (by kernel_rfl) (by rfl) (by decide)
  ·cases h
   exact DY (laidMet.reads hL (n:= "asof/checker.unary") (d:=Rows.laid_asof_checker_unary) (by simp[Rows.printerParensRow])) (by kernel_rfl) (by kernel_rfl) (by rfl) (by decide)
  ·cases h
   exact DY (laidMet.reads hL (n:= "asof/checker.binary") (d:=Rows.laid_asof_checker_binary) (by simp[Rows.printerParensRow])) (by kernel_rfl) (by kernel_rfl) (by rfl) (by decide)
  ·cases h
   obtain⟨m,hm⟩:=cell_of_shapedOpen_int (g:=3) (zero:= #[.int .i64 0]) (t:=3) hsh (of_decide_eq_true (by kernel_rfl)) (by kernel_rfl) rfl (by kernel_rfl) (by kernel_rfl) Tryz.underlying3
   exact FY hm (.ai .i64 m)
  ·cases h
   have h1:=Gz (k:= .i64) (zs:=[1,10,100,1000,10000,100000,1000000]) (n:=7) (G:=4) (t:=201) (e:=3) (laidMet.reads hL (n:= "asof/decimal.tens") (d:=Rows.laid_asof_decimal_tens) (by simp[Rows.printerParensRow])) (by rfl) (by kernel_rfl) (by kernel_rfl) Tryz.underlying201 Tryz.underlying3 (by kernel_rfl) (by kernel_rfl)
   exact NJ h1 (by kernel_rfl)
  ·cases h
   obtain⟨g,t,cs,fuel,p,h1,h2,h3,h4⟩:=laidMet.reads hL (n:= "strconv.ErrRange") (d:=Rows.laid_strconv_ErrRange) (by simp[Rows.printerParensRow])
   have hG:Tryz.prog.globalNamed "strconv.ErrRange" =some 9:=by kernel_rfl
   obtain rfl:=Zf (hG.symm.trans h1)
   have qP:(Tryz.prog.globals[9]?).map (·.type)=some 115:=by kernel_rfl
   obtain rfl:=Zf (qP.symm.trans h2)
   have eN:=World.var?_cell hG h3 0
   have LP: "*" ++ "errors.errorString" = "*errors.errorString" :=by decide
   cases fuel with
   |zero=>simp[DataW.trod]at h4
   |succ fuel=>
    unfold DataW.trod at h4
    rw[Tryz.underlying115]at h4
    clear hL hsh EW h1 h2 qP h3
    generalize bJ:cs.toList=l at h4
    have e0:cs[0]? =l[0]? :=by rw[← bJ];simp
    rw[e0]at eN
    clear e0 bJ
    have key:∃ u v,l=[.iface u v]∧Tryz.prog.typeName? 3 u=some "*errors.errorString" :=by
     unfold Rows.laid_strconv_ErrRange at h4
     split at h4
     all_goals first|(exfalso;rename_i heq;cases heq;done)|(exfalso;cases h4;done)|skip
     rename_i u v _
     refine⟨u,v,rfl,?_⟩
     cases hn:Tryz.prog.typeName? 3 u with
     |none=>rw[hn]at h4;cases h4
     |some nm=>
      rw[hn]at h4
      simp only[ZR,Y6,DataW.iface.injEq]at h4
      obtain⟨_,_,⟨rfl,_⟩,_⟩:=h4
      rfl
    obtain⟨u,v,rfl,hu⟩:=key
    obtain rfl:u=258:=typeName_ptr_named (nm:= "errors.errorString") (by rw[LP];kernel_rfl) (by kernel_rfl) (by decide) u (by rw[LP];exact hu)
    exact FY (eN.trans rfl) (.gM _ _ v (.any v))
  ·cases h
   have h1:=Gz (k:= .u8) (zs:=firstTab) (n:=256) (G:=5) (t:=94) (e:=5) (laidMet.reads hL (n:= "unicode/utf8.first") (d:=Rows.laid_unicode_utf8_first) (by simp[Rows.printerParensRow])) (by kernel_rfl) (by kernel_rfl) (by kernel_rfl) Tryz.underlying94 Tryz.underlying5 (by kernel_rfl) (by kernel_rfl)
   have:=NJ h1 (G:=5) (by kernel_rfl)
   rw[show(firstTab.map fun z=>Value.int .u8 z).map AV.v=(List.range 256).map fun c=>AV.v (.int .u8 (Lib.firstT c:Nat)) by unfold firstTab;rw[Yw,Yw];rfl]at this
   exact this
  ·cases h
   have h4:=laidMet.reads hL (n:= "unicode/utf8.acceptRanges") (d:=Rows.laid_unicode_utf8_acceptRanges) (by simp[Rows.printerParensRow])
   rw[show(Rows.laid_unicode_utf8_acceptRanges:DataW Unit)=acceptData by kernel_rfl]at h4
   have hcell:∀ i,i<16→W.cell? ⟨6,2 * i,none⟩=some (.int .u8 (Lib.accLo i:Nat))∧W.cell? ⟨6,2 * i+1,none⟩=some (.int .u8 (Lib.accHi i:Nat)):=fun i hi=>by
    obtain⟨g,t,cs,fuel,p,hg,qP,LS,hd⟩:=h4
    have hG:Tryz.prog.globalNamed "unicode/utf8.acceptRanges" =some 6:=by kernel_rfl
    obtain rfl:=Zf (hG.symm.trans hg)
    have aaL:(Tryz.prog.globals[6]?).map (·.type)=some 234:=by kernel_rfl
    obtain rfl:=Zf (aaL.symm.trans qP)
    obtain⟨azJ,d,q,K4,he⟩:=array_elem Tryz.underlying234 hd i hi
    simp only[X8,List.getElem?_range hi,Zu,Z5]at K4
    subst K4
    have c2:Tryz.prog.cellsOf 233=2:=by kernel_rfl
    rw[c2]at he
    have ku:=ints_of_struct Tryz.underlying233 (fun j f hj=>by
     match j,hj with
     |0,hj=>simp at hj;subst hj;exact⟨Tryz.underlying5,rfl,by kernel_rfl⟩
     |1,hj=>simp at hj;subst hj;exact⟨Tryz.underlying5,rfl,by kernel_rfl⟩
     |j+2,hj=>simp at hj) (by rw[c2];rfl) he
    have e0:=congrArg (·[0]?) ku
    have e1:=congrArg (·[1]?) ku
    simp only[List.getElem?_take,Ys]at e0 e1
    constructor
    ·rw[World.var?_cell hG LS (2 * i),← Array.getElem?_toList]
     simpa[YC]using e0
    ·rw[World.var?_cell hG LS (2 * i+1),← Array.getElem?_toList]
     simpa[YC]using e1
   have hl:((List.range 16).flatMap fun i=>[AV.v (.int .u8 (Lib.accLo i:Nat)),AV.v (.int .u8 (Lib.accHi i:Nat))])=(((List.range 16).flatMap fun i=>[(Value.int .u8 (Lib.accLo i:Nat)),(Value.int .u8 (Lib.accHi i:Nat))]).map AV.v):=by kernel_rfl
   rw[hl]
   refine NK fun k hk=> ?_
   have bY:k<32:=hk
   have key:∀ i:Fin 16,((List.range 16).flatMap fun i=>[(Value.int .u8 (Lib.accLo i:Nat)),(Value.int .u8 (Lib.accHi i:Nat))])[2 * i.val]? =some (Value.int .u8 (Lib.accLo i.val:Nat))∧
     ((List.range 16).flatMap fun i=>[(Value.int .u8 (Lib.accLo i:Nat)),(Value.int .u8 (Lib.accHi i:Nat))])[2 * i.val+1]? =some (Value.int .u8 (Lib.accHi i.val:Nat)):=by
    rintro⟨i,hi⟩
    have:i=0∨i=1∨i=2∨i=3∨i=4∨i=5∨i=6∨i=7∨i=8∨i=9∨i=10∨i=11∨i=12∨i=13∨i=14∨i=15:=by omega
    rcases this with rfl|rfl|rfl|rfl|rfl|rfl|rfl|rfl|rfl|rfl|rfl|rfl|rfl|rfl|rfl|rfl<;>exact⟨rfl,rfl⟩
   obtain⟨k1,k2⟩:=key ⟨k / 2,by omega⟩
   obtain⟨c1,c2⟩:=hcell (k / 2) (by omega)
   rcases Nat.mod_two_eq_zero_or_one k with e|e
   ·rw[show 2 * (k / 2)=k by omega]at c1 k1
    rw[c1,← k1,Z6 hk]
   ·rw[show 2 * (k / 2)+1=k by omega]at c2 k2
    rw[c2,← k2,Z6 hk]
  ·cases h
 ·exact Gz (G:=7) EW (by rfl) (by kernel_rfl) (t:=242) (n:=20) (e:=210) (by kernel_rfl) Tryz.underlying242 Tryz.underlying210 (by kernel_rfl) (by kernel_rfl)
 ·obtain⟨g,t,cs,fuel,p,h1,h2,h3,h4⟩:=EW
  have hG:Tryz.prog.globalNamed "internal/strconv.uint64pow10" =some 7:=by kernel_rfl
  simp only[World.var?,hG,Option.bind_some]at h3
  split at h3
  ·rename_i e
   exact(Zq.1 e).1
  ·cases h3
end Go.Proofs.YtbihckigennlhaaGreatDoor
