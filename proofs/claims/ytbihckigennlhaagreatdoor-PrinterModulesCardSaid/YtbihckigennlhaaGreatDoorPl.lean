/- Texts of expressions: the walk through the printer. -/
import Derived.Test.YtbihckigennlhaaGreatDoorPc
import Derived.Test.YtbihckigennlhaaGreatDoorZa
import Derived.Test.YtbihckigennlhaaGreatDoorZf
import Derived.Test.YtbihckigennlhaaGreatDoorWj
import Derived.Test.YtbihckigennlhaaGreatDoorTm
import Derived.Test.YtbihckigennlhaaGreatDoorTz
set_option linter.unusedSimpArgs false
set_option linter.unusedVariables false
set_option maxRecDepth 100000
set_option maxHeartbeats 4000000
namespace Go.Proofs.YtbihckigennlhaaGreatDoor
open Go.Sx Go.Proofs
theorem N7(x:Ex):Pure Tryz.prog 128 [.agg x.row] (iv (aK x)):=by
 rw[Ex.bX x]
 refine abz.p fun σ=> ?_
 repeat'(first|exact .nil|refine .k0 ?_|refine .k1 ?_|refine .k2 ?_|refine .k6 ?_|refine .k7 ?_|refine .k9 ?_|(refine .cd ?_ ?_<;>(intro hc;first|exact kf hc (by assumption)|skip))|refine .r1 ?_ ?_|(refine .m1 ?_ ?_;intro b)|fail)
 all_goals(try simp only[BL]at *)
 all_goals(refine Sx.Fin.intro Zs (bi ?_);unfold aK;grind)
theorem azw(x:Ex)(h:iN x.win):Pure Tryz.prog 127 [.agg x.row] (sv (ug x.win)):=by
 have hw:0≤x.win.size∧x.win.size≤1099511627776:=by unfold iN at h;omega
 have hz:=yA x.win.size (by omega)
 have hi:=yz hw.1
 rw[Ex.bX x]
 refine aby.p fun σ=> ?_
 repeat'(first|exact .nil|refine .k0 ?_|refine .k1 ?_|refine .k2 ?_|refine .k6 ?_|refine .k7 ?_|refine .k9 ?_|(refine .cd ?_ ?_<;>(intro hc;skip))|refine .r1 ?_ ?_|(refine .m1 ?_ ?_;intro b)|refine .an rfl (by intro bx;first|exact vD _ (by first|omega|fail)|exact lM _ rfl (Z8 rfl) (by simp only[gh,bC,ZY,Z9,Z4];omega)|fail) ?_ ?_|fail)
 all_goals(try simp only[BL]at *)
 any_goals((simp only[Z9,Z4,Z7,Z3,ZT,bK,bC,du,ZY];omega))
 all_goals(refine Sx.Fin.intro Zs (bs ?_);simp[ug,eG,iA, *];done)
theorem acE(x:Ex)(h:ji x):Pure Tryz.prog 80 [.agg x.row] (sv (pA x)):=by
 have hv:mj x.val:=⟨h.1,h.2.1⟩
 have hk:=hv.kinds
 have hs:=GY hv
 obtain⟨hl,hu,ho⟩:=zK h.2.2.1
 have hl:x.unit.length≤4:=hl
 have hu:∀ f∈x.unit,gn f:=hu
 have ho:x.name.size≤24:=ho
 have hz:=zL hu hl
 rw[Ex.bX x]
 refine k80.p fun σ=> ?_
 repeat'(first|exact .nil|refine .k0 ?_|refine .k1 ?_|refine .k2 ?_|refine .k5 ?_|refine .k7 ?_|refine .k9 ?_|(refine .cd ?_ ?_<;>(intro hc;skip))|refine .r1 ?_ ?_|(refine .m1 ?_ ?_;intro b)|refine .an rfl (by intro bx;first|exact PB x.unit hu hl|exact WI x.val hv|exact lM _ rfl (Z8 rfl) (by simp only[gh,bC,ZY,Z9,Z4];omega)) ?_ ?_|fail)
 all_goals(try simp only[BL]at *)
 any_goals((simp only[Z9,Z4,Z7,Z3,ZT,bK,bC,du,ZY];omega))
 all_goals(refine Sx.Fin.intro Zs (bs ?_);simp[pA,eG,iA,oO, *];done)
theorem M9(x:Ex):Pure Tryz.prog 81 [.agg x.row] (sv x.name):=by
 rw[Ex.bX x]
 refine k81.p fun σ=> ?_
 repeat'(first|exact .nil|refine .k0 ?_|refine .k1 ?_|refine .k2 ?_|refine .k7 ?_|refine .r1 ?_ ?_|(refine .m1 ?_ ?_;intro b)|fail)
 all_goals(try simp only[BL]at *)
 all_goals exact Sx.Fin.intro Zs rfl
structure Kids(x:Ex)(F:FuncId):Prop where
 t:∀ i,i<x.args.length→Pure Tryz.prog F [.agg (x.args.getD i default).row] (sv (tx x i))
 z:∀ i,i<x.args.length→(tx x i).size≤100000
theorem jS{x:Ex}{F:FuncId}(h:Kids x F){i:Nat}{r:Int}(hi:i<x.args.length):(jx x (tx x) i r).size≤100002:=by
 have:=h.z i hi
 have:= @kn x (tx x) i r
 omega
theorem jR(x:Ex)(h:Kids x 39)(i:Nat)(hi:i<x.args.length)(r:Int):Pure Tryz.prog 126 [.agg x.row,iv i,iv r] (sv (jx x (tx x) i r)):=by
 have hz:=h.z i hi
 rw[Ex.bX x]
 refine abx.p fun σ=> ?_
 repeat'(first|exact .nil|refine .k0 ?_|refine .k1 ?_|refine .k2 ?_|refine .k7 ?_|refine .k9 ?_|(refine .cd ?_ ?_<;>(intro hc;skip))|refine .r1 ?_ ?_|(refine .l1 ?_;intro b)|(refine .m1 ?_ ?_;intro b)|refine .t1 ?_ ?_ ?_|refine .an rfl (by intro bx;first|exact N7 (x.args.getD i default)|exact h.t i hi|exact lM _ rfl (Z8 rfl) (by simp only[gh,bC,ZY,Z9,Z4];omega)) ?_ ?_|fail)
 try any_goals(exact Zo)
 all_goals(try simp only[BL]at *)
 any_goals((simp only[Z9,Z4,Z7,Z3,ZT,bK,bC,du,ZY];omega))
 all_goals(refine Sx.Fin.intro Zs (bs ?_);first|(rw[jx,if_pos hc];simp only[par,eG,iA];done)|(rw[jx,if_neg hc];done))
theorem sf(x:Ex)(T:Nat→af)(i:Nat):jx x T i 0=T i:=if_neg (by have:=(N6 (x.args.getD i default)).1;omega)
theorem xo(a:af):(⟨#[]⟩:af)++a=a:=pQ (by simp)
theorem acH(x:Ex)(h:Kids x 39)(hl:x.args.length=1)(hn:x.name.size≤24):Pure Tryz.prog 82 [.agg x.row] (sv (x.name++(⟨#[32,111,102,32,40]⟩++(tx x 0++⟨#[41]⟩)))):=by
 have hz:= @jS x _ h 0 0 (by omega)
 have h0:=sf x (tx x) 0
 rw[Ex.bX x]
 refine k82.p fun σ=> ?_
 repeat'(first|exact .nil|refine .k0 ?_|refine .k1 ?_|refine .k2 ?_|refine .k5 ?_|refine .k7 ?_|refine .r1 ?_ ?_|(refine .m1 ?_ ?_;intro b)|refine .an rfl (by intro bx;first|(refine(jR x h 0 (by omega) 0).wk ?_;(repeat' first|exact .row|exact .refl _|refine .cons ?_ ?_|refine .agg ?_|fail);done)|exact lM _ rfl (Z8 rfl) (by simp only[gh,bC,ZY,Z9,Z4,mn];omega)) ?_ ?_|fail)
 all_goals(try simp only[BL]at *)
 any_goals((simp only[Z9,Z4,Z7,Z3,ZT,bK,bC,du,ZY];omega))
 all_goals(refine Sx.Fin.intro Zs (bs ?_);simp[eG,iA, *];done)
theorem Ug(x:Ex)(h:Kids x 39)(hl:x.args.length=3):Pure Tryz.prog 86 [.agg x.row] (sv (td x (tx x))):=by
 have hz:= @jS x _ h 0 0 (by omega)
 have pn:= @jS x _ h 1 0 (by omega)
 have tc:= @jS x _ h 2 0 (by omega)
 have h0:=sf x (tx x) 0
 have h1:=sf x (tx x) 1
 have h2:=sf x (tx x) 2
 rw[Ex.bX x]
 refine k86.p fun σ=> ?_
 repeat'(first|exact .nil|refine .k0 ?_|refine .k1 ?_|refine .k2 ?_|refine .k5 ?_|refine .k7 ?_|refine .r1 ?_ ?_|(refine .m1 ?_ ?_;intro b)|refine .an rfl (by intro bx;first|(refine(jR x h 0 (by omega) 0).wk ?_;(repeat' first|exact .row|exact .refl _|refine .cons ?_ ?_|refine .agg ?_|fail);done)|(refine(jR x h 1 (by omega) 0).wk ?_;(repeat' first|exact .row|exact .refl _|refine .cons ?_ ?_|refine .agg ?_|fail);done)|(refine(jR x h 2 (by omega) 0).wk ?_;(repeat' first|exact .row|exact .refl _|refine .cons ?_ ?_|refine .agg ?_|fail);done)|exact lM _ rfl (Z8 rfl) (by simp only[gh,bC,ZY,Z9,Z4,mn];omega)) ?_ ?_|fail)
 all_goals(try simp only[BL]at *)
 any_goals((simp only[Z9,Z4,Z7,Z3,ZT,bK,bC,du,ZY];omega))
 all_goals(refine Sx.Fin.intro Zs (bs ?_);simp[td,eG,iA, *];done)
theorem Wm(x:Ex)(h:Kids x 39)(hl:x.args.length=2):Pure Tryz.prog 87 [.agg x.row] (sv (sn x (tx x))):=by
 have hz:= @jS x _ h 0 1 (by omega)
 have pn:= @jS x _ h 1 2 (by omega)
 rw[Ex.bX x]
 refine k87.p fun σ=> ?_
 repeat'(first|exact .nil|refine .k0 ?_|refine .k1 ?_|refine .k2 ?_|refine .k5 ?_|refine .k7 ?_|refine .r1 ?_ ?_|(refine .m1 ?_ ?_;intro b)|refine .an rfl (by intro bx;first|(refine(jR x h 0 (by omega) 1).wk ?_;(repeat' first|exact .row|exact .refl _|refine .cons ?_ ?_|refine .agg ?_|fail);done)|(refine(jR x h 1 (by omega) 2).wk ?_;(repeat' first|exact .row|exact .refl _|refine .cons ?_ ?_|refine .agg ?_|fail);done)|exact lM _ rfl (Z8 rfl) (by simp only[gh,bC,ZY,Z9,Z4,mn];omega)) ?_ ?_|fail)
 all_goals(try simp only[BL]at *)
 any_goals((simp only[Z9,Z4,Z7,Z3,ZT,bK,bC,du,ZY];omega))
 all_goals(refine Sx.Fin.intro Zs (bs ?_);simp[sn,eG,iA, *];done)
theorem ayS(x:Ex)(h:Kids x 39)(hl:x.args.length=1):Pure Tryz.prog 84 [.agg x.row] (sv (tY x (tx x))):=by
 have hz:= @jS x _ h 0 0 (by omega)
 have pn:= @jS x _ h 0 8 (by omega)
 have tc:= @jS x _ h 0 4 (by omega)
 have h0:=sf x (tx x) 0
 rw[Ex.bX x]
 refine k84.p fun σ=> ?_
 repeat'(first|exact .nil|refine .k0 ?_|refine .k1 ?_|refine .k2 ?_|refine .k6 ?_|refine .k7 ?_|refine .k9 ?_|(refine .cd ?_ ?_<;>(intro hc;skip))|refine .r1 ?_ ?_|(refine .m1 ?_ ?_;intro b)|refine .an rfl (by intro bx;first|(refine(jR x h 0 (by omega) 0).wk ?_;(repeat' first|exact .row|exact .refl _|refine .cons ?_ ?_|refine .agg ?_|fail);done)|(refine(jR x h 0 (by omega) 8).wk ?_;(repeat' first|exact .row|exact .refl _|refine .cons ?_ ?_|refine .agg ?_|fail);done)|(refine(jR x h 0 (by omega) 4).wk ?_;(repeat' first|exact .row|exact .refl _|refine .cons ?_ ?_|refine .agg ?_|fail);done)|exact lM _ rfl (Z8 rfl) (by simp only[gh,bC,ZY,Z9,Z4,mn];omega)) ?_ ?_|fail)
 all_goals(try simp only[BL]at *)
 any_goals((simp only[Z9,Z4,Z7,Z3,ZT,bK,bC,du,ZY];omega))
 all_goals(refine Sx.Fin.intro Zs (bs ?_);simp[tY,eG,iA, *];done)
theorem TY(x:Ex)(h:Kids x 39)(hl:x.args.length=2)(ho:x.op.size≤8):Pure Tryz.prog 85 [.agg x.row] (sv (si x (tx x))):=by
 have hz:= @jS x _ h 0 (aK x) (by omega)
 have pn:= @jS x _ h 0 (IntKind.i64.wrap (aK x+1)) (by omega)
 have tc:= @jS x _ h 1 (IntKind.i64.wrap (aK x+1)) (by omega)
 have hr:=N6 x
 rw[Ex.bX x]
 refine k85.p fun σ=> ?_
 repeat'(first|exact .nil|refine .k0 ?_|refine .k1 ?_|refine .k2 ?_|refine .k5 ?_|refine .k7 ?_|refine .k9 ?_|(refine .cd ?_ ?_<;>(intro hc;skip))|refine .r1 ?_ ?_|(refine .m1 ?_ ?_;intro b)|refine .an rfl (by intro bx;first|(refine(N7 x).wk ?_;(repeat' first|exact .row|exact .refl _|refine .cons ?_ ?_|refine .agg ?_|fail);done)|(refine(jR x h 0 (by omega) (aK x)).wk ?_;(repeat' first|exact .row|exact .refl _|refine .cons ?_ ?_|refine .agg ?_|fail);done)|(refine(jR x h 0 (by omega) (IntKind.i64.wrap (aK x+1))).wk ?_;(repeat' first|exact .row|exact .refl _|refine .cons ?_ ?_|refine .agg ?_|fail);done)|(refine(jR x h 1 (by omega) (IntKind.i64.wrap (aK x+1))).wk ?_;(repeat' first|exact .row|exact .refl _|refine .cons ?_ ?_|refine .agg ?_|fail);done)|exact lM _ rfl (Z8 rfl) (by simp only[gh,bC,ZY,Z9,Z4,mn];omega)) ?_ ?_|fail)
 all_goals(try simp only[BL]at *)
 any_goals((simp only[Z9,Z4,Z7,Z3,ZT,bK,bC,du,ZY];omega))
 all_goals(refine Sx.Fin.intro Zs (bs ?_);have hw:IntKind.i64.wrap (aK x+1)=aK x+1:=aW (by omega)
           rw[hw];unfold si iI;first|(simp only[hc,eG,iA,Y7,Zt];done)|(simp only[hc,eG,iA,Y7,Zt];rfl))
theorem ayP{y:Ex}{q:Bool}(hf:form q y=true):y=dD↔y.kind=1∧y.val.kind=1∧y.val.n=1∧y.val.s=⟨#[]⟩:=by
 constructor
 ·rintro rfl;exact⟨rfl,rfl,rfl,rfl⟩
 ·rintro⟨h1,h2,h3,h4⟩
  refine Kx hf ?_
  have hb:=(lj.of hf).nb
  unfold dC at hb
  rw[if_pos h1]at hb
  obtain⟨e1,e2,e3,e4⟩:=hb
  have hu:y.unit=[]∧y.name=⟨#[]⟩:=by
   unfold il at e3
   split at e3
   ·omega
   ·rename_i h
    simp only[Num]at h
    constructor
    ·exact Y4.1 fun h'=>h (.inr (.inr (.inl ⟨h',by omega⟩)))
    ·exact Y4.1 fun h'=>h (.inr (.inr (.inr (.inr ⟨by omega,h'⟩))))
  obtain⟨f1,f2,f3,f4,f5,f6,f7,f8⟩:=e4
  exact⟨h1,f2,hu.2,f4,GZ.2 ⟨h2,h3,h4⟩,hu.1,f7,f8⟩
theorem Tt(x:Ex)(h:Kids x 39)(hl:x.args.length=2)(ho:x.op.size≤8)(ht:x.table.size≤24)(hw:iN x.win)(hp:0≤x.param∧x.param≤1073741824)(hf:form true (x.args.getD 1 default)=true):Pure Tryz.prog 83 [.agg x.row] (sv (gq x (tx x))):=by
 have hz:= @jS x _ h 0 0 (by omega)
 have pn:= @jS x _ h 1 0 (by omega)
 have h0:=sf x (tx x) 0
 have h1:=sf x (tx x) 1
 have hi:=yz hp.1
 have hz3:=yA x.param (by omega)
 have hz4:=Ha hw
 rw[Ex.bX x]
 refine k83.p fun σ=> ?_
 repeat'(first|exact .nil|refine .k0 ?_|refine .k1 ?_|refine .k2 ?_|refine .k4 ?_|refine .k7 ?_|refine .k9 ?_|(refine .cd ?_ ?_<;>(intro hc;skip))|refine .r1 ?_ ?_|(refine .l1 ?_;intro b)|(refine .m1 ?_ ?_;intro b)|refine .t1 ?_ ?_ ?_|refine .an rfl (by intro bx;first|(refine(azw x hw).wk ?_;(repeat' first|exact .row|exact .refl _|refine .cons ?_ ?_|refine .agg ?_|fail);done)|exact vD _ (by first|omega|fail)|(refine(jR x h 0 (by omega) 0).wk ?_;(repeat' first|exact .row|exact .refl _|refine .cons ?_ ?_|refine .agg ?_|fail);done)|(refine(jR x h 1 (by omega) 0).wk ?_;(repeat' first|exact .row|exact .refl _|refine .cons ?_ ?_|refine .agg ?_|fail);done)|exact lM _ rfl (Z8 rfl) (by simp only[gh,bC,ZY,Z9,Z4,mn];omega)) ?_ ?_|fail)
 try any_goals(exact Zo)
 all_goals(try simp only[BL]at *)
 any_goals((simp only[Z9,Z4,Z7,Z3,ZT,bK,bC,du,ZY];omega))
 try any_goals(simp only[mn,gh,bC,ZY,Z9,Z4];omega)
 all_goals(refine Sx.Fin.intro Zs (bs ?_);have hy:=ayP hf;unfold gq cZ;repeat' split
           all_goals first|(exfalso;grind)|(simp only[eG,iA,xo,oO,h0,h1,hi];done))
theorem ayz (x:Ex) (r:af) (h:(x.kind=1∧Pure Tryz.prog 80 [.agg x.row] (sv r))
  ∨(x.kind=2∧Pure Tryz.prog 81 [.agg x.row] (sv r))∨(x.kind=3∧Pure Tryz.prog 81 [.agg x.row] (sv r))
  ∨(x.kind=4∧Pure Tryz.prog 82 [.agg x.row] (sv r))∨(x.kind=5∧Pure Tryz.prog 83 [.agg x.row] (sv r))
  ∨(x.kind=6∧Pure Tryz.prog 84 [.agg x.row] (sv r))∨(x.kind=7∧Pure Tryz.prog 85 [.agg x.row] (sv r))
  ∨(x.kind=8∧Pure Tryz.prog 86 [.agg x.row] (sv r))∨(x.kind=9∧Pure Tryz.prog 87 [.agg x.row] (sv r))):
  Pure Tryz.prog 39 [.agg x.row] (sv r):=by
 obtain⟨k,o,nm,t,v,u,p,w,ks⟩:=x
 simp only[Ex.kind]at h
 rcases h with⟨rfl,hC⟩|⟨rfl,hC⟩|⟨rfl,hC⟩|⟨rfl,hC⟩|⟨rfl,hC⟩|⟨rfl,hC⟩|⟨rfl,hC⟩|⟨rfl,hC⟩|⟨rfl,hC⟩
 all_goals rw[Ex.bX]
 all_goals rw[Ex.bX]at hC
 all_goals refine k39.p fun σ=> ?_
 repeat'(first|exact .nil|refine .k0 ?_|refine .k1 ?_|refine .k2 ?_|refine .k7 ?_|refine .r1 ?_ ?_|(refine .m1 ?_ ?_;intro b)|refine .an rfl (by intro bx;(refine hC.wk ?_;(repeat' first|exact .refl _|fail);done)) ?_ ?_|(refine .l3 ?_;intro b)|refine .r6 ?_ ?_|refine .r7 ?_ ?_|fail)
 all_goals(try simp only[BL]at *)
 all_goals exact Sx.Fin.intro Zs rfl
theorem ace{x:Ex}{ins:Bool}(h:dC x ins):1≤x.kind∧x.kind≤9:=by
 unfold dC at h
 repeat' split at h
 all_goals first|omega|exact h.elim
theorem parts{x:Ex}{ins:Bool}(h:lj x ins):
  (x.kind=1→ji x∧x.args.length=0)∧(x.kind=2∨x.kind=3→jj x∧x.args.length=0)∧(x.kind=4→jj x∧x.args.length=1)∧(x.kind=5→az6 x∧x.args.length=2)
  ∧(x.kind=6→x.args.length=1∧∃ y∈wI,x.op=y)∧(x.kind=7→x.args.length=2∧∃ y∈iC,x.op=y)∧(x.kind=8→x.args.length=3)∧(x.kind=9→x.args.length=2):=by
 have hb:=h.nb
 have hn:=h.nn
 unfold dC at hb
 unfold fS at hn
 refine⟨fun e=> ?_,fun e=> ?_,fun e=> ?_,fun e=> ?_,fun e=> ?_,fun e=> ?_,fun e=> ?_,fun e=> ?_⟩
 all_goals grind
theorem ado{x:Ex}(h:kM x):0≤x.param∧x.param≤1073741824:=by
 unfold kM at h
 repeat' split at h
 all_goals omega
theorem ac0(x:Ex):∀ ins,form ins x=true→x.size≤100→Pure Tryz.prog 39 [.agg x.row] (sv (text x)):=by
 induction x using Ex.ind with
 |h x ih=>
 intro ins hf hs
 have h:=lj.of hf
 have hk:Kids x 39:=by
  constructor
  ·intro i hi
   have:=Ex.tQ (cW hi)
   rw[zJ hi]
   exact ih _ (cW hi) _ (h.sub _ (cW hi)) (by omega)
  ·intro i hi
   have:=Ex.tQ (cW hi)
   rw[zJ hi]
   exact YG (ayB _ _ (h.sub _ (cW hi))) (by omega)
 obtain⟨p1,p2,p4,p5,p6,p7,p8,p9⟩:=parts h
 have hr:=ace h.nb
 refine ayz x (text x) ?_
 rw[Ch]
 unfold wF
 have:x.kind=1∨x.kind=2∨x.kind=3∨x.kind=4∨x.kind=5∨x.kind=6∨x.kind=7∨x.kind=8∨x.kind=9:=by omega
 rcases this with e|e|e|e|e|e|e|e|e
 ·rw[if_pos e];exact .inl ⟨e,acE x (p1 e).1⟩
 ·simp only[e,Int.reduceEq,Zt];exact .inr (.inl ⟨trivial,M9 x⟩)
 ·simp only[e,Int.reduceEq,Zt];exact .inr (.inr (.inl ⟨trivial,M9 x⟩))
 ·simp only[e,Int.reduceEq,Zt,Y7];exact .inr (.inr (.inr (.inl ⟨trivial,acH x hk (p4 e).2 (p4 e).1.1.1.2.1⟩)))
 ·have hA:=(p5 e).1
  obtain⟨⟨y,hy,ho⟩,ht,hw,hp, -⟩:=hA
  have e1:=Al y hy
  rw[← ho]at e1
  have hl:=(p5 e).2
  have h1:=h.sub _ (cW (i:=1) (by omega))
  rw[e]at h1
  simp only[e,Int.reduceEq,Zt,Y7]
  exact .inr (.inr (.inr (.inr (.inl ⟨trivial,Tt x hk hl e1 ht.1.2.1 hw (ado hp) (by simpa using h1)⟩))))
 ·simp only[e,Int.reduceEq,Zt,Y7];exact .inr (.inr (.inr (.inr (.inr (.inl ⟨trivial,ayS x hk (p6 e).1⟩)))))
 ·obtain⟨hl,y,hy,ho⟩:=p7 e
  have e1:=Aw y hy
  rw[← ho]at e1
  simp only[e,Int.reduceEq,Zt,Y7]
  exact .inr (.inr (.inr (.inr (.inr (.inr (.inl ⟨trivial,TY x hk hl e1⟩))))))
 ·simp only[e,Int.reduceEq,Zt,Y7];exact .inr (.inr (.inr (.inr (.inr (.inr (.inr (.inl ⟨trivial,Ug x hk (p8 e)⟩)))))))
 ·simp only[e,Int.reduceEq,Zt,Y7];exact .inr (.inr (.inr (.inr (.inr (.inr (.inr (.inr ⟨trivial,Wm x hk (p9 e)⟩)))))))
theorem Gq{x:Ex}(h:shape x=0):form false x=true:=by
 unfold shape at h
 split at h
 ·omega
 ·split at h
  ·assumption
  ·omega
def qt(x:Ex):af:=if shape x=0 then text x else⟨#[]⟩
def aB2(t:Ty):af:=if il t=0 then tX t else⟨#[]⟩
theorem uM{a b:af}{n m:Int}(h:a=b)(h2:n=m):AV.aI [.v (.string a),.v (.int .i64 n)]= .aI [sv b,iv m]:=by rw[h,h2]
theorem DL(x:Ex)(hs:x.size≤100):Pure Tryz.prog 10 [.agg x.row] (.aI [sv (qt x),iv (shape x)]):=by
 rw[Ex.bX x]
 refine k10.p fun σ=> ?_
 repeat'(first|exact .nil|refine .k0 ?_|refine .k1 ?_|refine .k2 ?_|refine .k7 ?_|refine .k9 ?_|(refine .cd ?_ ?_<;>(intro hc;skip))|refine .r1 ?_ ?_|(refine .m1 ?_ ?_;intro b)|refine .an rfl (by intro bx;first|(refine(axV x (by omega)).wk ?_;(repeat' first|exact .row|exact .refl _|refine .cons ?_ ?_|refine .agg ?_|fail);done)|(refine(ac0 x false (Gq (by(simp only[BL]at *;omega))) hs).wk ?_;(repeat' first|exact .row|exact .refl _|refine .cons ?_ ?_|refine .agg ?_|fail);done)|fail) ?_ ?_|fail)
 all_goals(try simp only[BL]at *)
 all_goals(refine Sx.Fin.intro Zs (uM ?_ ?_)<;>first|rfl|exact(if_neg hc).symm|exact(if_pos hc).symm|exact hc.symm)
theorem Pu{t:Ty}(h:il t=0):(∀ f∈t.unit,gn f)∧t.unit.length≤4∧t.of.size≤100:=by
 obtain⟨h1,h2,h3⟩:=zK h
 exact⟨h2,h1,by omega⟩
theorem aI6(t:Ty):Pure Tryz.prog 21 [.agg t.cells] (.aI [sv (aB2 t),iv (il t)]):=by
 refine k21.p fun σ=> ?_
 repeat'(first|exact .nil|refine .k0 ?_|refine .k1 ?_|refine .k2 ?_|refine .k7 ?_|refine .k9 ?_|(refine .cd ?_ ?_<;>(intro hc;skip))|refine .r1 ?_ ?_|(refine .m1 ?_ ?_;intro b)|refine .an rfl (by intro bx;first|exact Pw t|exact acd t (Pu (by(simp only[BL]at *;omega))).1 (Pu (by(simp only[BL]at *;omega))).2.1 (Pu (by(simp only[BL]at *;omega))).2.2|fail) ?_ ?_|fail)
 all_goals(try simp only[BL]at *)
 all_goals(refine Sx.Fin.intro Zs (uM ?_ ?_)<;>first|rfl|exact(if_neg hc).symm|exact(if_pos hc).symm|exact hc.symm)
theorem adI(x:Ex)(hs:x.size≤100)(s:af):Pure Tryz.prog 31 [.agg x.row,sv s] (.v (.bool (decide (qt x=s∧shape x=0)))):=by
 rw[Ex.bX x]
 refine k31.p fun σ=> ?_
 repeat'(first|exact .nil|refine .k0 ?_|refine .k1 ?_|refine .k2 ?_|refine .k4 ?_|refine .k7 ?_|refine .r1 ?_ ?_|(refine .m1 ?_ ?_;intro b)|refine .an rfl (by intro bx;(refine(DL x hs).wk ?_;(repeat' first|exact .row|exact .refl _|refine .cons ?_ ?_|refine .agg ?_|fail);done)) ?_ ?_|fail)
 all_goals(try simp only[BL]at *)
 all_goals(refine Sx.Fin.intro Zs (bd ?_);grind)
def vQ(s:af):Ex:=⟨3,⟨#[]⟩,s,⟨#[]⟩,⟨0,0,⟨#[]⟩⟩,[],0,⟨0,0⟩,[]⟩
def qv(s:af):Ex:=⟨2,⟨#[]⟩,s,⟨#[]⟩,⟨0,0,⟨#[]⟩⟩,[],0,⟨0,0⟩,[]⟩
def Pr(o:af)(a b:Ex):Ex:=⟨7,o,⟨#[]⟩,⟨#[]⟩,⟨0,0,⟨#[]⟩⟩,[],0,⟨0,0⟩,[a,b]⟩
def Nt(o:af)(a:Ex):Ex:=⟨6,o,⟨#[]⟩,⟨#[]⟩,⟨0,0,⟨#[]⟩⟩,[],0,⟨0,0⟩,[a]⟩
theorem acO(s:af):Pure Tryz.prog 30 [sv s] (.agg (vQ s).row):=by
 refine k30.p fun σ=> ?_
 repeat'(first|exact .nil|refine .k0 ?_|refine .k1 ?_|refine .k2 ?_|refine .k7 ?_|refine .r1 ?_ ?_|(refine .l1 ?_;intro b)|fail)
 all_goals(try simp only[BL]at *)
 ·refine Sx.Fin.wk Zs (Wk.agg ?_)
  show bH _ (vQ s).lay
  unfold Ex.lay
  repeat' first|exact .refl _|exact .nil|refine .cons ?_ ?_|fail
theorem Wv(s:af):Pure Tryz.prog 35 [sv s] (.agg (qv s).row):=by
 refine k35.p fun σ=> ?_
 repeat'(first|exact .nil|refine .k0 ?_|refine .k1 ?_|refine .k2 ?_|refine .k7 ?_|refine .r1 ?_ ?_|(refine .l1 ?_;intro b)|fail)
 all_goals(try simp only[BL]at *)
 ·refine Sx.Fin.wk Zs (Wk.agg ?_)
  show bH _ (qv s).lay
  unfold Ex.lay
  repeat' first|exact .refl _|exact .nil|refine .cons ?_ ?_|fail
theorem Ie{n:Nat}{rows rows':List (List AV)}(h:rows=rows'):Wk (.sl true n rows) (.sl false n rows'):=h ▸ Wk.sl
theorem Ps(o:af)(y z:Ex):Pure Tryz.prog 32 [sv o,.agg y.row,.agg z.row] (.agg (Pr o y z).row):=by
 have e:[y.lay,z.lay]=List.map Ex.row [y,z]:=by show _=[y.row,z.row];rw[Ex.bX y,Ex.bX z];rfl
 rw[Ex.bX y,Ex.bX z,Ex.bX (Pr o y z)]
 refine k32.p fun σ=> ?_
 repeat'(first|exact .nil|refine .k0 ?_|refine .k1 ?_|refine .k2 ?_|refine .k7 ?_|refine .r1 ?_ ?_|(refine .l1 ?_;intro b)|(refine .m1 ?_ ?_;intro b)|fail)
 all_goals(try simp only[BL]at *)
 any_goals exact Z8 rfl
 ·refine Sx.Fin.wk Zs (Wk.agg ?_)
  repeat'(first|exact Wk.refl _|exact bH.nil|exact Ie e|refine bH.cons ?_ ?_|exact Wk.nil)
theorem adg(o:af)(y:Ex):Pure Tryz.prog 33 [sv o,.agg y.row] (.agg (Nt o y).row):=by
 have e:[y.lay]=List.map Ex.row [y]:=by show _=[y.row];rw[Ex.bX y];rfl
 rw[Ex.bX y,Ex.bX (Nt o y)]
 refine k33.p fun σ=> ?_
 repeat'(first|exact .nil|refine .k0 ?_|refine .k1 ?_|refine .k2 ?_|refine .k7 ?_|refine .r1 ?_ ?_|(refine .l1 ?_;intro b)|(refine .m1 ?_ ?_;intro b)|fail)
 all_goals(try simp only[BL]at *)
 any_goals exact Z8 rfl
 ·refine Sx.Fin.wk Zs (Wk.agg ?_)
  repeat'(first|exact Wk.refl _|exact bH.nil|exact Ie e|refine bH.cons ?_ ?_|exact Wk.nil)
end Go.Proofs.YtbihckigennlhaaGreatDoor
namespace Go.Sx
structure At(P:Program)[Glob P](f:FuncId)(xs:List AV)(r:AV)(σ:Store):Prop where
 sp:Spec P f xs σ fun r' σ'=>r'= .ret r∧σ'=σ
theorem At.wk{P:Program}[Glob P]{f:FuncId}{xs bs:List AV}{r:AV}{σ:Store}(h:At P f bs r σ)(hw:bH xs bs):At P f xs r σ:=
 ⟨fun M w0 w cs hI hR=>h.sp M w0 w cs hI (hw.sound hR)⟩
theorem Jl{P:Program}[Glob P]{f:FuncId}{xs:List AV}{σ:Store}{K:AV→Store→Prop}{E:List PanicEntry→Store→Prop}{r:AV}(h:At P f xs r σ)(k:K r σ):qd P f xs σ K E:=
 ⟨_,h.sp,fun _ _ ⟨e,e'⟩=>by cases e;subst e';exact k,fun _ _ ⟨e,_⟩=>by cases e⟩
theorem At.cY{P:Program}[Glob P][jO P]{f:FuncId}{fn:Func}{fc:FC}{xs:List AV}{r:AV}{σ:Store}{a:AC}(cfg:Nat→Nat)(hf:P.funcs[f]? =some fn)(hc:cm P fn=some fc)(ha:fc.code=a.erase)(hlen:xs.length≤fc.N)
  (h:WK P fc.N cfg (lW fc.res r σ) a [] (jw 0 xs) σ):At P f xs r σ:=by
 have h1:=h.h.h
 rw[← ha]at h1
 refine⟨?_⟩
 have:=Spec.intro (Q:=fun r' σ'=>∃ x,r'= .ret x∧Wk x r∧Sub σ σ') hf hc hlen (h1.mono (fun e rg σ' hq=>by
  cases e with
  |normal=>obtain⟨x,h1,h2,h3⟩:=hq;exact⟨x,h1,x,rfl,h2,h3⟩
  |ret=>obtain⟨x,h1,h2,h3⟩:=hq;exact⟨x,h1,x,rfl,h2,h3⟩
  |_=>exact hq.elim))
 refine this.weak ?_
 rintro r' σ' ⟨x,rfl,h2,h3⟩
 exact⟨.ret r,σ,⟨rfl,rfl⟩,h3,h2⟩
section
variable {P:Program}[Glob P]{cfg:Nat→Nat}{K:ae→Store→Prop}{E:List PanicEntry→Store→Prop}{σ:Store}{l:List CI}{d:Nat}{v:AV}{xr:XR}{ps:List Prop}{g:Option (Nat×Bool)}{og:Option Bool}{xs:List AV}{args:List Operand}
theorem H6{f:FuncId}{r:AV}(h:aA xr g args=some (og,xs,ps))(hp:og.getD true=true→At P f xs r σ)(al:OB ps)(k:VX P cfg l K E (bF og d r xr) σ):VX P cfg (⟨some d,.call f args,g⟩::l) K E xr σ:=by
 obtain⟨hc,he⟩:=bZ h
 refine gU hc (fun hg=> ?_) (fun hg=> ?_)
 ·simp only[aj,he al hg]
  refine Jl (hp hg) ?_
  rw[← eP hg];exact k.h
 ·rw[← eO hg (v:=r)];exact k.h
theorem Q5{f:FuncId}{r fv:AV}{fo:Operand}{a c:Array Value}(h:aA xr g (fo::args)=some (og,fv::xs,ps))(hf:uY fv=some (f,a,c))(bJ:gV P f=true)(hp:og.getD true=true→At P f (a.toList.map .v++xs++c.toList.map .v) r σ)(al:OB ps)(k:VX P cfg l K E (bF og d r xr) σ):
  VX P cfg (⟨some d,.dA fo args,g⟩::l) K E xr σ:=by
 obtain⟨hc,he⟩:=bZ h
 refine gU hc (fun hg=> ?_) (fun hg=> ?_)
 ·have:=he al hg
  simp only[aU,ZW]at this
  simp only[aj,this.1,this.2,AR hf]
  refine⟨bJ,Jl (hp hg) ?_⟩
  rw[← eP hg];exact k.h
 ·rw[← eO hg (v:=r)];exact k.h
end
theorem Wk.ptr(t b o:Nat):Wk (.v (.pointer (some ⟨b,o,none⟩))) (.lp t b o):=fun M x h=>by
 obtain rfl:=h.az
 exact .lp t b o
end Go.Sx
namespace Go.Proofs.YtbihckigennlhaaGreatDoor
open Go.Sx Go.Proofs
theorem axP(x f:dX)(b:Nat)(τ:Store):At Tryz.prog 118 [.agg x.cells,.lp 4 b 0] (.v (.bool (decide (x.name=f.name)))) ((4,b,bN.cells f.cells)::τ):=by
 refine At.cY (fun _=>0) Tryz.func118 Uv VF (Z8 rfl) ?_
 repeat'(first|exact .nil|refine .k0 ?_|refine .k1 ?_|refine .k2 ?_|refine .k7 ?_|refine .r1 ?_ ?_|(refine .m1 ?_ ?_;intro b)|fail)
 all_goals(try simp only[BL]at *)
 ·exact Sx.Fin.intro Zs rfl
theorem aaW(fs:List dX)(f:dX)(b:Nat)(τ:Store):At Tryz.prog 162 [.sl false 4 (fs.map dX.cells),.v (.func (.func 118) #[] #[.pointer (some ⟨b,0,none⟩)])] (iv (firstIdx (fun x=>decide (x.name=f.name)) fs 0)) ((4,b,bN.cells f.cells)::τ):=by
 refine At.cY (fun _=>0) Tryz.func162 UF VQ (Z8 rfl) ?_
 repeat'(first|exact .nil|refine .k0 ?_|refine .k1 ?_|refine .k2 ?_|refine .k6 ?_|refine .r1 ?_ ?_|(refine .m2 ?_ ?_;intro hlen)|fail)
 all_goals(try simp only[BL]at *)
 refine cQ (fun n rg σ'=>∃ i:Nat,i≤fs.length∧n=fs.length-i∧(∀ j,j<i→¬(fs.getD j default).name=f.name)∧σ'=(4,b,bN.cells f.cells)::τ∧rg=[(0,.sl false 4 (fs.map dX.cells)),(1,.v (.func (.func 118) #[] #[.pointer (some ⟨b,0,none⟩)])),(7,iv fs.length),(8,iv i)]) fs.length rfl ⟨_,_,Zr,Zs,0,ZK _,rfl,fun j hj=>absurd hj (by omega),rfl,rfl⟩ ?_
 rintro n _ _ ⟨i,hi,hn,hp,rfl,rfl⟩
 repeat'(first|exact .nil|refine .k0 ?_|refine .k1 ?_|refine .k2 ?_|refine .k6 ?_|refine .k7 ?_|refine .k8 ?_|refine .k9 ?_|(refine .cd ?_ ?_<;>(intro hc;skip))|refine .r1 ?_ ?_|refine .t1 ?_ ?_ ?_|fail)
 try any_goals(exact Zo)
 all_goals(try simp only[BL]at *)
 refine Q5 rfl rfl (by rfl) (fun _=>(axP (fs.getD i default) f b τ).wk (bH.cons (Wk.refl _) (bH.cons (Wk.ptr _ _ _) bH.nil))) OB.nil ?_
 repeat'(first|exact .nil|refine .k0 ?_|refine .k1 ?_|refine .k2 ?_|refine .k7 ?_|refine .k9 ?_|(refine .cd ?_ ?_<;>(intro hc;skip))|refine .r1 ?_ ?_|fail)
 all_goals(try simp only[BL]at *)
 ·rw[AO (p:=fun x:dX=>decide (x.name=f.name)) (l:=fs) (k:=0) (i:=i) (fun j hj=>Zp (hp j hj)) (by omega) (Zi hc),Zh]
  exact Zw
 ·refine⟨fs.length-(i+1),by omega,_,_,Zr,Zs,i+1,by omega,rfl,gW hp hc,rfl,by rw[eD (by omega) hlen]⟩
 ·rw[AQ (fun y hy=>Zp (rG (p:=fun y:dX=>¬y.name=f.name) (fun j hj=>hp j (by omega)) y hy))]
  exact Zw
theorem U2(fs:List dX)(f:dX)(b:Nat)(τ:Store):At Tryz.prog 117 [.sl false 4 (fs.map dX.cells),.v (.func (.func 118) #[] #[.pointer (some ⟨b,0,none⟩)])] (.v (.bool (decide (∃ x∈fs,x.name=f.name)))) ((4,b,bN.cells f.cells)::τ):=by
 refine At.cY (fun _=>0) Tryz.func117 Uu VE (Z8 rfl) ?_
 repeat'(first|exact .nil|refine .k0 ?_|refine .k1 ?_|refine .k2 ?_|refine .r1 ?_ ?_|fail)
 all_goals(try simp only[BL]at *)
 refine H6 rfl (fun _=>aaW fs f b τ) OB.nil ?_
 repeat'(first|exact .nil|refine .k0 ?_|refine .k1 ?_|refine .k7 ?_|refine .r1 ?_ ?_|fail)
 all_goals(try simp only[BL]at *)
 ·refine Sx.Fin.intro Zs (bd ?_)
  rw[ZB,AP]
  simp only[ZB]
def qw(prev:List dX)(f:dX):Int:=if¬Name f.name then 3 else if∃ x∈prev,x.name=f.name then 121 else il f.type
def lD:List dX→List dX→Int
 |_,[]=>0
 |prev,f::l=>if qw prev f=0 then lD (prev++[f]) l else qw prev f
def l6(t:gp):Int:=
 if¬(Name t.name∧Name t.oX∧0≤t.keep∧t.keep≤1099511627776)then 3 else if t.fields.length>8 then 2 else lD [] t.fields
theorem Wz{u:List dX}{i:Nat}(hi:i<u.length)(h:qw (u.take i) (u.getD i default)=0):lD (u.take i) (u.drop i)=lD (u.take (i+1)) (u.drop (i+1)):=by
 rw[qp hi,lD,if_pos h,GD hi]
theorem DT{u:List dX}{i:Nat}{e:Int}(hi:i<u.length)(h:qw (u.take i) (u.getD i default)=e)(he:e≠0):lD (u.take i) (u.drop i)=e:=by
 rw[qp hi,lD,if_neg (by rw[h];exact he),h]
theorem ays(t:gp):Pure Tryz.prog 68 [.agg t.cells] (iv (l6 t)):=by
 refine k68.p fun σ=> ?_
 repeat'(first|exact .nil|refine .k0 ?_|refine .k1 ?_|refine .k2 ?_|refine .k4 ?_|refine .k6 ?_|refine .k7 ?_|refine .k9 ?_|(refine .cd ?_ ?_<;>(intro hc;skip))|refine .r1 ?_ ?_|(refine .m1 ?_ ?_;intro b)|(refine .m2 ?_ ?_;intro hlen)|refine .an rfl (by intro bx;first|exact vR _|fail) ?_ ?_|fail)
 try any_goals(exact Zo)
 all_goals(try simp only[BL]at *)
 ·refine Sx.Fin.intro Zs (bi ?_)
  unfold l6;rw[if_pos (by grind)]
 ·refine Sx.Fin.intro Zs (bi ?_)
  unfold l6;rw[if_neg (by grind),if_pos (by omega)]
 rename_i h1 h2
 have hu:l6 t=lD [] t.fields:=by unfold l6;rw[if_neg (by grind),if_neg (by omega)]
 refine cQ (fun n rg σ'=>∃ (i:Nat),i≤t.fields.length∧n=t.fields.length-i∧l6 t=lD (t.fields.take i) (t.fields.drop i)∧σ'=(1,b,bN.cells t.cells)::σ∧rg=[(1,.lp 1 b 0),(31,.sl false 4 (t.fields.map dX.cells)),(32,iv t.fields.length),(33,iv i)]) t.fields.length rfl ⟨_,_,Zr,Zs,0,ZK _,rfl,hu,rfl,rfl⟩ ?_
 rintro n _ _ ⟨i,hi,hn,hp,rfl,rfl⟩
 repeat'(first|exact .nil|refine .k0 ?_|refine .k1 ?_|refine .k2 ?_|refine .k6 ?_|refine .k7 ?_|refine .k8 ?_|refine .k9 ?_|(refine .cd ?_ ?_<;>(intro hc;skip))|refine .r1 ?_ ?_|(refine .l1 ?_;intro b)|refine .t1 ?_ ?_ ?_|refine .t2 ?_ ?_ ?_|refine .an rfl (by intro bx;first|exact vR _|fail) ?_ ?_|fail)
 try any_goals(exact Zo)
 all_goals(try simp only[BL]at *)
 ·rw[hp,DT (e:=3) (by omega) (if_pos hc) (by decide)]
  exact Zw
 refine H6 rfl (fun _=>U2 (t.fields.take i) (t.fields.getD i default) _ _) OB.nil ?_
 repeat'(first|exact .nil|refine .k0 ?_|refine .k1 ?_|refine .k2 ?_|refine .k7 ?_|refine .k9 ?_|(refine .cd ?_ ?_<;>(intro hc;skip))|refine .r1 ?_ ?_|refine .an rfl (by intro bx;exact Pw (t.fields.getD i default).type) ?_ ?_|fail)
 all_goals(try simp only[BL]at *)
 ·rw[hp,DT (e:=121) (by omega) (by unfold qw;rw[if_neg (fun h=>h ‹_›),if_pos hc]) (by decide)]
  exact Zw
 ·rw[hp,DT (by omega) (by unfold qw;rw[if_neg (fun h=>h ‹_›),if_neg ‹_›]) hc]
  exact Zw
 ·refine⟨t.fields.length-(i+1),by omega,_,_,Zr,Zs,i+1,by omega,rfl,?_,rfl,by rw[eD (n:=t.fields.length) (by omega) (by assumption)]⟩
  rw[hp,Wz (by omega) (by unfold qw;rw[if_neg (fun h=>h ‹_›),if_neg ‹_›];exact hc)]
 ·rw[hp,Yb (by omega),lD]
  exact Zw
def jX(f:dX):af:=⟨#[32]⟩++(f.name++(⟨#[58,32]⟩++tX f.type))
def tU(t:gp):af:=⟨#[116,97,98,108,101,32]⟩++(t.name++(⟨#[32,111,102,32]⟩++(t.oX++(⟨#[32,123]⟩++(tj (t.fields.map jX) ⟨#[44]⟩++(⟨#[32,125]⟩++((if t.keep=0 then⟨#[]⟩else⟨#[32,107,101,101,112,32]⟩++jg t.keep)++⟨#[59]⟩)))))))
theorem Ku:∀ (l p:List dX),lD p l=0→∀ f∈l,Name f.name∧il f.type=0
 |[],_,_,f,hf=>absurd hf (by simp)
 |g::l,p,h,f,hf=>by
  rw[lD]at h
  split at h
  ·rename_i h0
   rcases ZV.1 hf with rfl|hf
   ·unfold qw at h0
    split at h0
    ·omega
    ·rename_i hn
     split at h0
     ·omega
     ·exact⟨Y4.1 hn,h0⟩
   ·exact Ku l _ h f hf
  ·rename_i h0;exact absurd h h0
structure uE(t:gp):Prop where
 n:t.name.size≤24
 e:t.oX.size≤24
 k:0≤t.keep∧t.keep≤1099511627776
 l:t.fields.length≤8
 f:∀ f∈t.fields,Name f.name∧il f.type=0
theorem uE.of{t:gp}(h:l6 t=0):uE t:=by
 unfold l6 at h
 split at h
 ·omega
 ·rename_i h1
  have h1:=Y4.1 h1
  split at h
  ·omega
  ·exact⟨h1.1.1.2.1,h1.2.1.1.2.1,h1.2.2,by omega,Ku _ _ h⟩
theorem Pv{t:Ty}(h:il t=0):(tX t).size≤220:=by
 obtain⟨hu,hl,ho⟩:=Pu h
 have:=zL hu hl
 unfold tX
 repeat' split
 all_goals first|decide|((simp only[Z9,Z4,Z7,Z3,ZT,bK,bC,du,ZY];omega))
theorem WC{f:dX}(h:Name f.name∧il f.type=0):(jX f).size≤250:=by
 have h1:=Pv h.2
 have h2:=h.1.1.2.1
 unfold jX
 ((simp only[Z9,Z4,Z7,Z3,ZT,bK,bC,du,ZY];omega))
theorem O7{t:gp}(h:uE t):(Lib.join ((t.fields.map jX).map (·.data.toList)) (⟨#[44]⟩:af).data.toList).length≤3000:=by
 have h1:=Mt (t.fields.map jX) ⟨#[44]⟩
 have h2:=Fy jX 250 fun f hf=>WC (h.f f hf)
 have h3:(⟨#[44]⟩:af).size=1:=rfl
 rw[Z3,h3]at h1
 have:=h.l
 omega
theorem ayr{t:gp}(h:uE t):(tj (t.fields.map jX) ⟨#[44]⟩).size≤3000:=O7 h
theorem ayq{t:gp}{i:Nat}(hT:uE t)(h:i<t.fields.length):(∀ f∈(t.fields.getD i default).type.unit,gn f)∧(t.fields.getD i default).type.unit.length≤4∧(t.fields.getD i default).type.of.size≤100∧(t.fields.getD i default).name.size≤24∧(tX (t.fields.getD i default).type).size≤220:=by
 have h1:=hT.f _ (cW h)
 obtain⟨hu,hl,ho⟩:=Pu h1.2
 exact⟨hu,hl,ho,h1.1.1.2.1,Pv h1.2⟩
theorem WB(f:dX):eG [⟨#[32]⟩,f.name,⟨#[58,32]⟩,tX f.type]=jX f:=by simp only[eG,jX,iA]
theorem aef{fs:List dX}{i:Nat}(h:i<fs.length):((fs.take i).map jX).map dL++[[.v (.string (jX (fs.getD i default)))]]=((fs.take (i+1)).map jX).map dL:=by
 rw[GD h];simp[dL]
theorem O9(t:gp):Pure Tryz.prog 27 [.agg t.cells] (.aI [sv (if l6 t=0 then tU t else⟨#[]⟩),iv (l6 t)]):=by
 refine k27.p fun σ=> ?_
 repeat'(first|exact .nil|refine .k0 ?_|refine .k1 ?_|refine .k2 ?_|refine .k6 ?_|refine .k7 ?_|refine .k9 ?_|(refine .cd ?_ ?_<;>(intro hc;skip))|refine .r1 ?_ ?_|(refine .m1 ?_ ?_;intro b)|(refine .m2 ?_ ?_;intro hlen)|refine .an rfl (by intro bx;first|exact ays t|fail) ?_ ?_|fail)
 all_goals(try simp only[BL]at *)
 ·refine Sx.Fin.intro Zs (uM ?_ rfl)
  exact(if_neg hc).symm
 have hT:=uE.of hc
 have hTn:=hT.n
 have hTe:=hT.e
 have KY:=hT.k
 have hTl:=hT.l
 have hTz:=ayr hT
 have hj:(tj [] (⟨#[44]⟩:af)).size=0:=rfl
 have hTq:=yA t.keep (by omega)
 rw[if_pos hc,hc]
 refine cQ (fun n rg σ'=>∃ i:Nat,i≤t.fields.length∧n=t.fields.length-i∧((i=0∧σ'=(1,b,bN.cells t.cells)::σ∧rg=[(1,.lp 1 b 0),(5,.v (.slice none 0 0)),(14,.sl false 4 (t.fields.map dX.cells)),(15,iv t.fields.length),(16,iv i)])∨(0<i∧∃ b' v c,σ'=(29,b',.tail v c)::(1,b,bN.cells t.cells)::σ∧rg=[(1,.lp 1 b 0),(5,.own 1 29 b' v c (((t.fields.take i).map jX).map dL)),(14,.sl false 4 (t.fields.map dX.cells)),(15,iv t.fields.length),(16,iv i)]))) t.fields.length rfl ⟨_,_,Zr,Zs,0,ZK _,rfl,.inl ⟨rfl,rfl,rfl⟩⟩ ?_
 rintro n _ _ ⟨i,hi,hn,⟨h0,rfl,rfl⟩|⟨h0,b0,v0,c0,rfl,rfl⟩⟩
 all_goals have hf:=fun h=>ayq (i:=i) hT h
 all_goals have pn:=fun h=>(hf h).2.2.2.1
 all_goals have tc:=fun h=>(hf h).2.2.2.2
 repeat'(first|exact .nil|refine .k0 ?_|refine .k1 ?_|refine .k2 ?_|refine .k4 ?_|refine .k5 ?_|refine .k6 ?_|refine .k7 ?_|refine .k8 ?_|refine .k9 ?_|(refine .cd ?_ ?_<;>(intro hc;skip))|refine .r1 ?_ ?_|(refine .l1 ?_;intro b)|refine .t1 ?_ ?_ ?_|refine .u1 ?_ ?_ ?_ (fun b u c=> ?_)|refine .u2 ?_ ?_ ?_ (fun b u c=> ?_)|refine .an rfl (by intro bx;first|exact vD _ (by first|omega|fail)|exact acd (t.fields.getD i default).type (hf (by(simp only[BL]at *;omega))).1 (hf (by(simp only[BL]at *;omega))).2.1 (hf (by(simp only[BL]at *;omega))).2.2.1|exact lM _ rfl (Z8 rfl) (by simp only[gh,bC,ZY,Z9,Z4,mn];first|omega|(simp only[BL]at *;omega))|(refine(yB [] ⟨#[44]⟩ false (by decide) (by decide)).wk ?_;(repeat' first|exact .refl _|exact .nil|refine .cons ?_ ?_|fail);done)|(refine(yB (t.fields.map jX) ⟨#[44]⟩ false (by rw[Z3];omega) (YG (O7 hT) (by decide))).wk (bH.cons (Wk.Nz (by rw[ZC (by(simp only[BL]at *;omega))])) (bH.cons (Wk.refl _) bH.nil)))) ?_ ?_|(show List.all _ _=true;rfl)|fail)
 try any_goals(exact Zo)
 all_goals(try simp only[BL]at *)
 any_goals((simp only[Z9,Z4,Z7,Z3,ZT,bK,bC,du,ZY];omega))
 all_goals have e:=fun h=>aef (fs:=t.fields) (i:=i) h
 all_goals try simp only[WB]
 ·subst h0
  refine⟨t.fields.length-(0+1),by omega,_,_,Zr,Zs,0+1,by omega,rfl,.inr ⟨by omega,_,_,_,rfl,?_⟩⟩
  rw[← e (by omega),eD (n:=t.fields.length) (by omega) (by assumption)];rfl
 ·have D1:t.fields=[]:=ZO (by omega)
  refine Sx.Fin.intro Zs (uM ?_ rfl)
  unfold tU
  rw[if_neg hc,D1]
  simp only[eG,iA,xo,oO,yz KY.1,YX]
 ·have D1:t.fields=[]:=ZO (by omega)
  refine Sx.Fin.intro Zs (uM ?_ rfl)
  unfold tU
  rw[if_pos hc,D1]
  simp only[eG,iA,xo,oO,YX]
 ·refine⟨t.fields.length-(i+1),by omega,_,_,Zr,Zs,i+1,by omega,rfl,.inr ⟨by omega,_,_,_,rfl,?_⟩⟩
  rw[← e (by omega),eD (n:=t.fields.length) (by omega) (by assumption)]
 ·refine Sx.Fin.intro Zs (uM ?_ rfl)
  unfold tU
  rw[if_neg hc]
  simp only[eG,iA,xo,oO,yz KY.1]
 ·refine Sx.Fin.intro Zs (uM ?_ rfl)
  unfold tU
  rw[if_pos hc]
  simp only[eG,iA,xo,oO]
end Go.Proofs.YtbihckigennlhaaGreatDoor
namespace Go.Sx
theorem bH.get{xs ys:List AV}(h:bH xs ys):xs.length=ys.length∧∀ j (h1:j<xs.length) (h2:j<ys.length),Wk xs[j] ys[j]:=by
 induction h with
 |nil=>exact⟨rfl,fun j h1=>absurd h1 (by simp)⟩
 |cons h t ih=>
  refine⟨by simp[ih.1],fun j h1 h2=> ?_⟩
  cases j with
  |zero=>exact h
  |succ j=>exact ih.2 j (by simpa using h1) (by simpa using h2)
inductive uG:List (List AV)→List (List AV)→Prop
 |nil:uG [] []
 |cons {x y:List AV} {xs ys:List (List AV)} (h:bH x y) (t:uG xs ys):uG (x::xs) (y::ys)
theorem uG.get{xs ys:List (List AV)}(h:uG xs ys):xs.length=ys.length∧∀ j (h1:j<xs.length) (h2:j<ys.length),bH xs[j] ys[j]:=by
 induction h with
 |nil=>exact⟨rfl,fun j h1=>absurd h1 (by simp)⟩
 |cons h t ih=>
  refine⟨by simp[ih.1],fun j h1 h2=> ?_⟩
  cases j with
  |zero=>exact h
  |succ j=>exact ih.2 j (by simpa using h1) (by simpa using h2)
theorem Wk.rows{nn:Bool}{n:Nat}{rows rows':List (List AV)}(h:uG rows rows'):Wk (.sl nn n rows) (.sl false n rows'):=fun M v hv=>by
 obtain⟨hl,hg⟩:=h.get
 cases hv with
 |nil _ _ a ha=>
  obtain rfl:rows'=[]:=ZO hl.symm
  exact .nil _ _ a (fun h=>nomatch h)
 |sl _ _ _ b off cap cs hsz hM hR hc hm=>
  rw[hl]
  refine .sl _ _ _ b off cap cs (fun i hi=> ?_) (fun k hk=>hM k (by rw[hl];exact hk)) (fun i hi j hj=> ?_) (by omega) hm
  ·have:=(hg i (by omega) hi).get.1
   rw[← this];exact hsz i (by omega)
  ·have EB:=(hg i (by omega) hi).get
   have:=hR i (by omega) j (by rw[EB.1];exact hj)
   exact EB.2 j (by rw[EB.1];exact hj) hj M _ this
end Go.Sx
namespace Go.Proofs.YtbihckigennlhaaGreatDoor
open Go.Sx Go.Proofs
abbrev aS:af:=⟨#[97]⟩
abbrev bS:af:=⟨#[98]⟩
abbrev cS:af:=⟨#[99]⟩
def JX:List aq:=[⟨⟨#[101,117,114]⟩,1⟩]
def Uq:Ex:=⟨1,⟨#[]⟩,⟨#[]⟩,⟨#[]⟩,⟨2,2,⟨#[]⟩⟩,JX,0,⟨0,0⟩,[]⟩
def azG:Ex:=⟨1,⟨#[]⟩,⟨#[]⟩,⟨#[]⟩,⟨2,0,⟨#[]⟩⟩,[],0,⟨0,0⟩,[]⟩
def ab8:Ex:=⟨1,⟨#[]⟩,⟨#[115,104,111,112]⟩,⟨#[]⟩,⟨5,0,⟨#[115,49]⟩⟩,[],0,⟨0,0⟩,[]⟩
def Uf:Ex:=⟨8,⟨#[]⟩,⟨#[]⟩,⟨#[]⟩,⟨0,0,⟨#[]⟩⟩,[],0,⟨0,0⟩,[vQ aS,vQ bS,vQ cS]⟩
def Vg:Ex:=⟨9,⟨#[]⟩,⟨#[]⟩,⟨#[]⟩,⟨0,0,⟨#[]⟩⟩,[],0,⟨0,0⟩,[Uf,azG]⟩
def acF:Ex:=⟨4,⟨#[]⟩,⟨#[114,97,110,107]⟩,⟨#[]⟩,⟨0,0,⟨#[]⟩⟩,[],0,⟨0,0⟩,[ab8]⟩
def Uo:Ex:=⟨5,⟨#[99,111,117,110,116]⟩,⟨#[]⟩,⟨#[99,108,105,99,107,115]⟩,⟨0,0,⟨#[]⟩⟩,[],0,⟨1,0⟩,[dD,dD]⟩
def adQ:Ex:=⟨5,⟨#[113,117,97,110,116,105,108,101]⟩,⟨#[]⟩,⟨#[99,97,108,108,115]⟩,⟨0,0,⟨#[]⟩⟩,[],950,⟨2,60⟩,[qv ⟨#[109,115]⟩,qv ⟨#[111,107]⟩]⟩
theorem yS{x:Ex}{s:af}(hs:x.size≤100)(h:qt x=s∧shape x=0):Pure Tryz.prog 31 [.agg x.row,sv s] (.v (.bool true)):=by
 have:=adI x hs s
 rwa [Zi h]at this
theorem adA:Pure Tryz.prog 31 [.agg Vg.row,sv ⟨#[40,105,102,32,97,32,116,104,101,110,32,98,32,101,108,115,101,32,99,41,32,100,101,102,97,117,108,116,32,48]⟩] (.v (.bool true)):=yS (by decide+kernel) (by decide+kernel)
theorem adB:Pure Tryz.prog 31 [.agg acF.row,sv ⟨#[114,97,110,107,32,111,102,32,40,64,115,104,111,112,32,34,115,49,34,41]⟩] (.v (.bool true)):=yS (by decide+kernel) (by decide+kernel)
theorem adz:Pure Tryz.prog 31 [.agg Uo.row,sv ⟨#[99,111,117,110,116,40,99,108,105,99,107,115,44,32,97,108,108,41]⟩] (.v (.bool true)):=yS (by decide+kernel) (by decide+kernel)
theorem adC:Pure Tryz.prog 31 [.agg adQ.row,sv ⟨#[113,117,97,110,116,105,108,101,40,99,97,108,108,115,44,32,109,115,44,32,57,53,48,44,32,115,108,105,100,105,110,103,32,54,48,32,119,104,101,114,101,32,111,107,41]⟩] (.v (.bool true)):=yS (by decide+kernel) (by decide+kernel)
def Cf:gp:=⟨⟨#[116]⟩,⟨#[117,115,101,114]⟩,[⟨⟨#[120]⟩,⟨3,JX,⟨#[]⟩⟩⟩,⟨⟨#[121]⟩,⟨1,[],⟨#[]⟩⟩⟩],9⟩
def Cg:gp:=⟨⟨#[116]⟩,⟨#[117,115,101,114]⟩,[],0⟩
theorem adD:Pure Tryz.prog 27 [.agg Cf.cells] (.aI [sv ⟨#[116,97,98,108,101,32,116,32,111,102,32,117,115,101,114,32,123,32,120,58,32,100,101,99,32,91,101,117,114,93,44,32,121,58,32,98,111,111,108,32,125,32,107,101,101,112,32,57,59]⟩,iv 0]):=by
 have:=O9 Cf
 rwa [show l6 Cf=0 by decide+kernel,if_pos rfl,show tU Cf=⟨#[116,97,98,108,101,32,116,32,111,102,32,117,115,101,114,32,123,32,120,58,32,100,101,99,32,91,101,117,114,93,44,32,121,58,32,98,111,111,108,32,125,32,107,101,101,112,32,57,59]⟩ by decide+kernel]at this
theorem adE:Pure Tryz.prog 27 [.agg Cg.cells] (.aI [sv ⟨#[116,97,98,108,101,32,116,32,111,102,32,117,115,101,114,32,123,32,125,59]⟩,iv 0]):=by
 have:=O9 Cg
 rwa [show l6 Cg=0 by decide+kernel,if_pos rfl,show tU Cg=⟨#[116,97,98,108,101,32,116,32,111,102,32,117,115,101,114,32,123,32,125,59]⟩ by decide+kernel]at this
theorem adF:Pure Tryz.prog 10 [.agg (qv ⟨#[120]⟩).row] (.aI [sv ⟨#[]⟩,iv 3]):=by
 have:=DL (qv ⟨#[120]⟩) (by decide+kernel)
 rwa [show qt (qv ⟨#[120]⟩)=⟨#[]⟩ by decide+kernel,show shape (qv ⟨#[120]⟩)=3 by decide+kernel]at this
theorem J1:Pure Tryz.prog 8 [] (.v (.bool true)):=by
 refine k8.p fun σ=> ?_
 repeat'(first|exact .nil|refine .k0 ?_|refine .k1 ?_|refine .k2 ?_|refine .k5 ?_|refine .k7 ?_|refine .k9 ?_|(refine .cd ?_ ?_<;>(intro hc;first|exact kt hc (by assumption)|skip))|refine .r1 ?_ ?_|(refine .l1 ?_;intro b)|refine .an rfl (by intro bx;first|exact acO _|exact Wv _|exact Po|exact Ps _ _ _|exact adg _ _|(refine(Ps ⟨#[42]⟩ (vQ bS) Uq).wk ?_;(repeat' first|exact .refl _|exact .nil|refine .cons ?_ ?_|refine .agg ?_|exact .sl|fail);done)|(refine(adA).wk ?_;((repeat' first|exact .refl _|exact .nil|refine .agg ?_|refine .cons ?_ ?_|refine .rows ?_);done))|(refine(adB).wk ?_;((repeat' first|exact .refl _|exact .nil|refine .agg ?_|refine .cons ?_ ?_|refine .rows ?_);done))|(refine(adz).wk ?_;((repeat' first|exact .refl _|exact .nil|refine .agg ?_|refine .cons ?_ ?_|refine .rows ?_);done))|(refine(adC).wk ?_;((repeat' first|exact .refl _|exact .nil|refine .agg ?_|refine .cons ?_ ?_|refine .rows ?_);done))|(refine(adD).wk ?_;((repeat' first|exact .refl _|exact .nil|refine .agg ?_|refine .cons ?_ ?_|refine .rows ?_);done))|(refine(adE).wk ?_;((repeat' first|exact .refl _|exact .nil|refine .agg ?_|refine .cons ?_ ?_|fail);done))|(refine(adF).wk ?_;((repeat' first|exact .refl _|fail);done))|exact yS (by decide+kernel) (by decide+kernel)) ?_ ?_|fail)
 all_goals try(exact absurd hc (by decide))
 any_goals exact Z8 rfl
 ·intro _;exact Z8 rfl
 ·exact Sx.Fin.intro Zs (congrArg (fun b=>AV.v (.bool b)) (by decide+kernel))
def aJj(f:mb):Int:=if¬Name f.name∨¬Name f.oX then 3 else if il f.type≠0 then il f.type else shape f.body
def aJH(f:mb):af:=⟨#[102,101,97,116,117,114,101,32]⟩++(f.name++(⟨#[32,111,102,32]⟩++(f.oX++(⟨#[58,32]⟩++(tX f.type++(⟨#[32,61,32]⟩++(text f.body++⟨#[59]⟩)))))))
def aJz(f:mb):af:=if aJj f=0 then aJH f else⟨#[]⟩
theorem aC4{f:mb}(h:¬Name f.name∨¬Name f.oX):aJj f=3:=if_pos h
theorem aEL{f:mb}(h:¬(¬Name f.name∨¬Name f.oX))(h2:il f.type≠0):aJj f=il f.type:=(if_neg h).trans (if_pos h2)
theorem aC5{f:mb}(h:¬(¬Name f.name∨¬Name f.oX))(h2:il f.type=0):aJj f=shape f.body:=(if_neg h).trans (if_neg (not_not_intro h2))
theorem aCn{f:mb}(h:aJj f≠0):aJz f=⟨#[]⟩:=if_neg h
theorem aD2{x:Ex}(h:shape x=0)(hs:x.size≤100):(text x).size≤50000:=by have:=ayB x false (Gq h);omega
theorem Name.size{s:af}(h:Name s):s.size≤24:=h.1.2.1
theorem mb.oR(f:mb):f.cells=[sv f.name,sv f.oX,iv f.type.kind,.sl false 2 (f.type.unit.map aq.cells),sv f.type.of,iv f.body.kind,sv f.body.op,sv f.body.name,sv f.body.table,iv f.body.val.kind,iv f.body.val.n,sv f.body.val.s,.sl false 2 (f.body.unit.map aq.cells),iv f.body.param,iv f.body.win.kind,iv f.body.win.size,.sl false 12 (f.body.args.map Ex.row),iv f.version]:=by rw[← Ex.oR];rfl
theorem Wf(x:Ex)(hs:x.size≤100):Pure Tryz.prog 10 [.agg x.lay] (.aI [sv (qt x),iv (shape x)]):=by have:=DL x hs;rwa [Ex.bX x]at this
theorem aI7(t:Ty):(aB2 t).size≤220:=by
 unfold aB2;split
 ·rename_i h;exact Pv h
 ·decide
theorem aEG(x:Ex)(hs:x.size≤100):(qt x).size≤50000:=by
 unfold qt;split
 ·rename_i h;exact aD2 h hs
 ·decide
theorem aEH{f:mb}(h1:il f.type=0)(h2:shape f.body=0):eG [⟨#[102,101,97,116,117,114,101,32]⟩,f.name,⟨#[32,111,102,32]⟩,f.oX,⟨#[58,32]⟩,aB2 f.type,⟨#[32,61,32]⟩,qt f.body,⟨#[59]⟩]=aJH f:=by
 simp only[eG,aJH,aB2,qt,if_pos h1,if_pos h2,iA]
theorem aC6(f:mb)(hs:f.body.size≤100):Pure Tryz.prog 28 [.agg f.cells] (.aI [sv (aJz f),iv (aJj f)]):=by
 rw[mb.oR]
 refine k28.p fun σ=> ?_
 repeat'(first|exact .nil|refine .k0 ?_|refine .k1 ?_|refine .k2 ?_|refine .k4 ?_|refine .k7 ?_|refine .k9 ?_|(refine .cd ?_ ?_<;>(intro hc;skip))|refine .r1 ?_ ?_|(refine .m1 ?_ ?_;intro b)|refine .an rfl (by intro bx;first|exact vR _|exact aI6 f.type|exact Wf f.body hs|exact lM _ rfl (Z8 rfl) (by have h1:=aI7 f.type;have h2:=aEG f.body hs;have h3:Name f.name∧Name f.oX:=(by grind);have h4:=Name.size h3.1;have h5:=Name.size h3.2;simp only[gh,bC,ZY,Z9,Z4,mn];omega)) ?_ ?_|fail)
 try any_goals(exact Zo)
 all_goals(try simp only[BL]at *)
 any_goals exact Z8 rfl
 ·rw[aC4 hc,aCn (by rw[aC4 hc];decide)]
  exact Zw
 ·have h:=aEL (f:=f) (by grind) hc
  rw[h,aCn (by rw[h];exact hc)]
  exact Zw
 ·have h:=aC5 (f:=f) (by grind) (by assumption)
  rw[h,aCn (by rw[h];exact hc)]
  exact Zw
 ·have h:=aC5 (f:=f) (by grind) (by assumption)
  refine Sx.Fin.intro Zs (uM ?_ ?_)
  ·rw[aEH (by assumption) hc];exact(if_pos (h.trans hc)).symm
  ·rw[h,hc]
def Qk(t:gp):Prop:=(∀ f∈t.fields,f.name.size≤100∧CW f.type)∧t.fields.length≤12∧t.name.size+t.oX.size≤200
instance (t:gp):Decidable (Qk t):=inferInstanceAs (Decidable (_∧_∧_))
structure gp.Fits(t:gp):Prop where
 n:t.name.size≤2 ^ 59
 e:t.oX.size≤2 ^ 59
 f:∀ f∈t.fields,f.type.of.size≤2 ^ 59
structure mb.Fits(f:mb):Prop where
 n:f.name.size≤2 ^ 59
 e:f.oX.size≤2 ^ 59
 t:f.type.of.size≤2 ^ 59
 b:f.body.wt≤2 ^ 60
theorem aEQ(t:gp)(hb:t.Fits):Pure Tryz.prog 60 [.agg t.cells] (.v (.bool (decide (Qk t)))):=by
 have hn:=hb.n
 have he:=hb.e
 refine k60.p fun σ=> ?_
 repeat'(first|exact .nil|refine .k0 ?_|refine .k1 ?_|refine .k2 ?_|refine .k6 ?_|refine .r1 ?_ ?_|(refine .m1 ?_ ?_;intro b)|fail)
 all_goals(try simp only[BL]at *)
 refine cQ (fun n rg σ'=>∃ i:Nat,i≤t.fields.length∧n=t.fields.length-i∧(∀ j,j<i→(t.fields.getD j default).name.size≤100∧CW (t.fields.getD j default).type)∧σ'=(1,b,bN.cells t.cells)::σ∧rg=[(1,.lp 1 b 0),(3,iv i)]) t.fields.length rfl ⟨_,_,Zr,Zs,0,ZK _,rfl,fun j hj=>absurd hj (by omega),rfl,rfl⟩ ?_
 rintro n _ _ ⟨i,hi,hn,hp,rfl,rfl⟩
 repeat'(first|exact .nil|refine .k0 ?_|refine .k1 ?_|refine .k2 ?_|refine .k3 ?_|refine .k4 ?_|refine .k6 ?_|refine .k7 ?_|refine .k8 ?_|refine .k9 ?_|(refine .cd ?_ ?_<;>(intro hc;skip))|refine .r1 ?_ ?_|(refine .m2 ?_ ?_;intro hlen)|refine .t1 ?_ ?_ ?_|refine .an rfl (by intro bx;exact aC7 (t.fields.getD i default).type (hb.f _ (cW (by(simp only[BL]at *;omega))))) ?_ ?_|fail)
 try any_goals(exact Zo)
 all_goals(try simp only[BL]at *)
 ·refine Sx.Fin.intro Zs (bf ?_)
  rintro⟨h,_⟩
  have:=h _ (cW (i:=i) (by omega))
  grind
 ·refine⟨t.fields.length-(i+1),by omega,_,_,Zr,Zs,i+1,by omega,rfl,gW hp (by grind),rfl,by rw[eD (n:=t.fields.length) (by omega) (by assumption)]⟩
 ·have aJb:=rG (p:=fun f:dX=>f.name.size≤100∧CW f.type) (l:=t.fields) (fun j hj=>hp j (by omega))
  refine Sx.Fin.intro Zs (bd ?_)
  rw[aW (by omega)]
  unfold Qk
  grind
def Qj(f:mb):Prop:=f.name.size+f.oX.size≤200∧CW f.type∧0≤jA f.body 80
instance (f:mb):Decidable (Qj f):=inferInstanceAs (Decidable (_∧_∧_))
theorem Kk(x:Ex)(hw:x.wt≤2 ^ 60)(n:Int)(hn: -1≤n∧n≤1000):Pure Tryz.prog 13 [.agg x.lay,iv n] (iv (jA x n)):=by have:=Wr x hw n hn;rwa [Ex.bX x]at this
theorem aEP(f:mb)(hb:f.Fits):Pure Tryz.prog 61 [.agg f.cells] (.v (.bool (decide (Qj f)))):=by
 have hn:=hb.n
 have he:=hb.e
 rw[mb.oR]
 refine k61.p fun σ=> ?_
 repeat'(first|exact .nil|refine .k0 ?_|refine .k1 ?_|refine .k2 ?_|refine .k4 ?_|refine .k7 ?_|refine .r1 ?_ ?_|(refine .m1 ?_ ?_;intro b)|refine .an rfl (by intro bx;first|exact aC7 f.type hb.t|exact Kk f.body hb.b 80 (by decide)) ?_ ?_|fail)
 all_goals(try simp only[BL]at *)
 ·refine Sx.Fin.intro Zs (bd ?_)
  rw[aW (by omega)]
  unfold Qj
  grind
set_option linter.unusedSectionVars false
set_option maxHeartbeats 8000000
theorem aDU(t:Ty):Sx.Pure Tryz.prog 23 [.agg t.cells,.agg t.cells] (.v (.bool true)):=by
 refine k23.p fun σ=> ?_
 repeat'(first|exact .nil|refine .k0 ?_|refine .k1 ?_|refine .k2 ?_|refine .k4 ?_|refine .k7 ?_|refine .r1 ?_ ?_|(refine .m1 ?_ ?_;intro b)|refine .an rfl (by intro bx;exact axR t.unit t.unit) ?_ ?_|fail)
 all_goals(try simp only[BL]at *)
 all_goals(show Sx.Fin _ _ _ _;exact Zw)
set_option linter.unusedSectionVars false
def aJA(f:dX):List Pc:=sp::pw f.name::ps 58::sp::aJh f.type
def aJr:List dX→List Pc
 |[]=>[]
 |f::l=>ps 44::(aJA f++aJr l)
def aJp:List dX→List Pc
 |[]=>[]
 |f::l=>aJA f++aJr l
def aJq(k:Int):List Pc:=if k=0 then[]else[sp,pw azh,sp,.inr (tI k.toNat)]
def aJI(t:gp):List Pc:=pw azj::sp::pw t.name::sp::pw gj::sp::pw t.oX::sp::ps 123::(aJp t.fields++(sp::ps 125::(aJq t.keep++[ps 59])))
def aJC(f:mb):List Pc:=pw azf::sp::pw f.name::sp::pw gj::sp::pw f.oX::ps 58::sp::(aJh f.type++(sp::ps 61::sp::(pc f.body++[ps 59])))
theorem aDe(f:dX):aM (aJA f)=bL (jX f):=by
 unfold aJA jX
 rw[eK,eK,eK,j8,kN,yQ,j8,aD3];rfl
theorem aDy:∀ l:List dX,aM (aJr l)=(l.map fun f=>44::bL (jX f)).flatten
 |[]=>rfl
 |f::l=>by rw[aJr,yQ,pF,aDe,aDy l];rfl
theorem aEV(l:List dX):aM (aJp l)=bL (tj (l.map jX) ⟨#[44]⟩):=by
 cases l with
 |nil=>rfl
 |cons f l=>
  rw[aJp,pF,aDe,aDy]
  show _=Lib.join (((f::l).map jX).map (·.data.toList)) [44]
  rw[ZH,ZH,Lib.join_cons,Lib.joinTail,Yw,Yw];rfl
theorem aFj{k:Int}:aM (aJq k)=bL (if k=0 then⟨#[]⟩else⟨#[32,107,101,101,112,32]⟩++jg k):=by
 unfold aJq
 by_cases h:k=0
 ·rw[if_pos h,if_pos h];rfl
 ·rw[if_neg h,if_neg h,eK,yx,j8,kN,j8,pG,zC,vW,Zn];rfl
theorem aIV(t:gp):aM (aJI t)=bL (tU t):=by
 unfold aJI tU
 simp only[eK,kN,j8,yQ,pF,vW,aEV,aFj,← ZA,Zn]
 simp[bL]
theorem aEI{f:mb}(h:form false f.body=true):aM (aJC f)=bL (aJH f):=by
 unfold aJC aJH
 simp only[eK,kN,j8,yQ,pF,vW,aD3,NH _ _ h,← ZA,Zn]
 simp[bL]
section
variable {R:List Pc}
theorem aDf{f:dX}(h:Name f.name∧il f.type=0)(hf:Fl (aM R))(hR:cq R):cq (aJA f++R):=
 fU (ie h.1.1 (sw (by decide)) (mT (by decide) (by decide) (fU (aD4 h.2 hf hR))))
theorem aDb(l:List dX)(hf:Fl (aM R)):Fl (aM (aJr l++R)):=by
 cases l with
 |nil=>exact hf
 |cons f l=>exact sw (by decide)
theorem aDz:∀ l:List dX,(∀ f∈l,Name f.name∧il f.type=0)→Fl (aM R)→cq R→cq (aJr l++R)
 |[],_,_,hR=>hR
 |f::l,h,hf,hR=>by
  have ih:=aDz l (fun g hg=>h g (ZX _ hg)) hf hR
  have:=aDf (h f ZU) (aDb l hf) ih
  rw[aJr,ZD,ZA]
  exact mT (by decide) (by decide) this
theorem aEW{l:List dX}(h:∀ f∈l,Name f.name∧il f.type=0)(hf:Fl (aM R))(hR:cq R):cq (aJp l++R):=by
 cases l with
 |nil=>exact hR
 |cons f l=>
  rw[aJp,ZA]
  exact aDf (h f ZU) (aDb l hf) (aDz l (fun g hg=>h g (ZX _ hg)) hf hR)
theorem aFk{k:Int}(h:0≤k∧k≤1099511627776)(hf:Fl (aM R))(hR:cq R):cq (aJq k++R):=by
 unfold aJq
 split
 ·exact hR
 ·exact fU (ie (by decide) az4 (fU (yL (by omega) hf hR)))
structure aBO(t:gp):Prop where
 n:Name t.name
 e:Name t.oX
 k:0≤t.keep∧t.keep≤1099511627776
 l:t.fields.length≤8
 f:∀ f∈t.fields,Name f.name∧il f.type=0
theorem aBO.of{t:gp}(h:l6 t=0):aBO t:=by
 have ht:=uE.of h
 unfold l6 at h
 split at h
 ·omega
 ·rename_i h1
  have h1:=Y4.1 h1
  exact⟨h1.1,h1.2.1,ht.k,ht.l,ht.f⟩
theorem aIW{t:gp}(h:aBO t)(hR:cq R):cq (aJI t++R):=by
 have e:aJI t++R=pw azj::sp::pw t.name::sp::pw gj::sp::pw t.oX::sp::ps 123::(aJp t.fields++(sp::ps 125::(aJq t.keep++ps 59::R))):=by simp[aJI]
 rw[e]
 refine ie (by decide) az4 (fU (ie h.n.1 az4 (fU (ie (by decide) az4 (fU (ie h.e.1 az4 (fU (mT (by decide) (by decide) ?_))))))))
 exact aEW h.f az4 (fU (mT (by decide) (by decide) (aFk h.k (sw (by decide)) (mT (by decide) (by decide) hR))))
theorem ok_eq(h:cq R):cq (ps 61::sp::R):=⟨wB (by decide) fun⟨_,h⟩=>absurd (Zf h) (by decide),fU h⟩
structure aBN(f:mb):Prop where
 n:Name f.name
 e:Name f.oX
 t:il f.type=0
 b:form false f.body=true
theorem aBN.of{f:mb}(h:aJj f=0):aBN f:=by
 unfold aJj at h
 split at h
 ·omega
 ·rename_i h1
  split at h
  ·rename_i h2;exact absurd h h2
  ·rename_i h2
   exact⟨by grind,by grind,by omega,Gq h⟩
theorem aEJ{f:mb}(h:aBN f)(hR:cq R):cq (aJC f++R):=by
 have e:aJC f++R=pw azf::sp::pw f.name::sp::pw gj::sp::pw f.oX::ps 58::sp::(aJh f.type++(sp::ps 61::sp::(pc f.body++ps 59::R))):=by simp[aJC]
 rw[e]
 refine ie (by decide) az4 (fU (ie h.n.1 az4 (fU (ie (by decide) az4 (fU (ie h.e.1 (sw (by decide)) (mT (by decide) (by decide) (fU ?_))))))))
 exact aD4 h.t az4 (fU (ok_eq (NI _ _ h.b _ (sw (by decide)) (mT (by decide) (by decide) hR))))
variable {p:Int}
theorem aDg{f:dX}(h:Name f.name∧il f.type=0)(hf:Fo R)(p:Int):∃ q,Km (ak p (aJA f++R))= .ok f (ak q R):=by
 have e:ak p (aJA f++R)=ak (p+1) (pw f.name::ps 58::sp::(aJh f.type++R)):=rfl
 obtain⟨q,hq⟩:=BD (p:=p+1) (Z:=ps 58::sp::(aJh f.type++R)) h.1
 obtain⟨q2,dQ⟩:=aD5 h.2 hf (q+1+1)
 refine⟨q2,?_⟩
 unfold Km
 rw[e,hq,PR.aJ,tP,PR.aJ]
 unfold PR.map
 rw[show ak (q+1) (sp::(aJh f.type++R))=ak (q+1+1) (aJh f.type++R)from rfl,dQ,PR.aJ]
theorem aDh(l:List dX)(hf:Fo R):Fo (aJr l++R):=by
 cases l with
 |nil=>exact hf
 |cons f l=>exact⟨rfl,rfl⟩
theorem aDt:∀ (l acc:List dX) (n:Nat) (p:Int),l.length<n→(∀ f∈l,Name f.name∧il f.type=0)→∃ q,j4 (ch 44) Km n (ak p (aJr l++sp::ps 125::R)) acc= .ok (acc++l) (ak q (sp::ps 125::R))
 |[],acc,n,p,hn,_=>by
  obtain⟨m,rfl⟩:∃ m,n=m+1:=⟨n-1,by simp at hn;omega⟩
  refine⟨p,?_⟩
  unfold j4
  rw[ij,if_neg (by exact Bool.noConfusion),Zn];rfl
 |f::l,acc,n,p,hn,h=>by
  obtain⟨m,rfl⟩:∃ m,n=m+1:=⟨n-1,by simp at hn;omega⟩
  obtain⟨q,hq⟩:=aDg (h f ZU) (aDh l (R:=sp::ps 125::R) ⟨rfl,rfl⟩) (p+1)
  obtain⟨q2,dQ⟩:=aDt l (acc++[f]) m q (by simp at hn;omega) fun g hg=>h g (ZX _ hg)
  refine⟨q2,?_⟩
  have e:aJr (f::l)++sp::ps 125::R=ps 44::(aJA f++(aJr l++sp::ps 125::R)):=by simp[aJr]
  rw[e]
  unfold j4
  rw[ij,if_pos (by rfl),show(ak p (ps 44::(aJA f++(aJr l++sp::ps 125::R)))).tail=ak (p+1) (aJA f++(aJr l++sp::ps 125::R))from rfl,hq,PR.aJ,dQ,ZA];rfl
theorem aEX{l:List dX}(hl:l.length≤8)(h:∀ f∈l,Name f.name∧il f.type=0)(p:Int):∃ q,Kn (ak p (aJp l++sp::ps 125::R))= .ok l (ak q R):=by
 cases l with
 |nil=>
  refine⟨p+1+1,?_⟩
  unfold Kn
  rw[ij,if_pos (by rfl)];rfl
 |cons f l=>
  have e:aJp (f::l)++sp::ps 125::R=aJA f++(aJr l++sp::ps 125::R):=by simp[aJp]
  obtain⟨q,hq⟩:=aDg (h f ZU) (aDh l (R:=sp::ps 125::R) ⟨rfl,rfl⟩) p
  obtain⟨q2,dQ⟩:=aDt (R:=R) l [f] N0 q (by simp at hl;show l.length<1000000;omega) fun g hg=>h g (ZX _ hg)
  refine⟨q2+1+1,?_⟩
  rw[e]
  unfold Kn gy
  rw[if_neg (by rw[ij];exact Bool.noConfusion),hq,PR.aJ,dQ,PR.aJ]
  unfold PR.map
  rw[show ak q2 (sp::ps 125::R)=ak (q2+1) (ps 125::R)from rfl,tP,PR.aJ];rfl
theorem aFl{k:Int}(h:0≤k)(p:Int):∃ q,Mw (ak p (aJq k++ps 59::R))= .ok k (ak q (ps 59::R)):=by
 unfold Mw aJq
 by_cases h0:k=0
 ·rw[if_pos h0,if_neg (by rw[ij];exact Bool.noConfusion),h0]
  exact⟨p,rfl⟩
 ·rw[if_neg h0,if_pos (by rw[ij];rfl)]
  obtain⟨q,hq⟩:=yI (p:=p+1+((ar (tW azh)).length:Int)+1) (n:=k.toNat) (Z:=ps 59::R)
  refine⟨q,?_⟩
  rw[show(ak p ([sp,pw azh,sp,.inr (tI k.toNat)]++ps 59::R)).tail=ak (p+1+((ar (tW azh)).length:Int)+1) (.inr (tI k.toNat)::ps 59::R)from rfl,hq]
  congr 1;omega
theorem aDB{a b:af}(ha:Name a)(hb:Name b)(p:Int):∃ q,FI (ak p (pw a::sp::pw gj::sp::pw b::R))= .ok (a,b) (ak q R):=by
 obtain⟨q,hq⟩:=BD (p:=p) (Z:=sp::pw gj::sp::pw b::R) ha
 obtain⟨q2,dQ⟩:=Fv (s:=gj) (p:=q+1) (Z:=sp::pw b::R)
 obtain⟨q3,vr⟩:=BD (p:=q2+1) (Z:=R) hb
 refine⟨q3,?_⟩
 unfold FI
 rw[hq,PR.aJ,show ak q (sp::pw gj::sp::pw b::R)=ak (q+1) (pw gj::sp::pw b::R)from rfl,dQ,PR.aJ]
 unfold PR.map
 rw[show ak q2 (sp::pw b::R)=ak (q2+1) (pw b::R)from rfl,vr,PR.aJ]
theorem aIX{t:gp}(h:aBO t)(R:List Pc)(p:Int):∃ q,aJe (ak p (aJI t++R))= .ok (.O6 t) (ak q R):=by
 have e:aJI t++R=pw azj::sp::(pw t.name::sp::pw gj::sp::pw t.oX::(sp::ps 123::(aJp t.fields++(sp::ps 125::(aJq t.keep++ps 59::R))))):=by simp[aJI]
 obtain⟨q,hq⟩:=aDB (R:=sp::ps 123::(aJp t.fields++(sp::ps 125::(aJq t.keep++ps 59::R)))) h.n h.e (p+((ar (tW azj)).length:Int)+1)
 obtain⟨q2,dQ⟩:=aEX (R:=aJq t.keep++ps 59::R) h.l h.f (q+1+1)
 obtain⟨q3,vr⟩:=aFl (R:=R) h.k.1 q2
 refine⟨q3+1,?_⟩
 rw[e]
 unfold aJe
 rw[if_pos (by rw[ij];rfl),show(ak p (pw azj::sp::(pw t.name::sp::pw gj::sp::pw t.oX::(sp::ps 123::(aJp t.fields++(sp::ps 125::(aJq t.keep++ps 59::R))))))).tail=ak (p+((ar (tW azj)).length:Int)+1) (pw t.name::sp::pw gj::sp::pw t.oX::(sp::ps 123::(aJp t.fields++(sp::ps 125::(aJq t.keep++ps 59::R)))))from rfl]
 unfold O8 PR.map
 rw[hq,PR.aJ,show ak q (sp::ps 123::(aJp t.fields++(sp::ps 125::(aJq t.keep++ps 59::R))))=ak (q+1) (ps 123::(aJp t.fields++(sp::ps 125::(aJq t.keep++ps 59::R))))from rfl,tP,PR.aJ,dQ,PR.aJ,vr,PR.aJ,tP,PR.aJ]
 rfl
def aJt(f:mb):mb:=⟨f.name,f.oX,f.type,f.body,0⟩
theorem aEK{f:mb}(h:aBN f)(R:List Pc)(hl:(aJC f++R).length≤90000)(p:Int):∃ q,aJe (ak p (aJC f++R))= .ok (.Kg (aJt f)) (ak q R):=by
 have e:aJC f++R=pw azf::sp::(pw f.name::sp::pw gj::sp::pw f.oX::(ps 58::sp::(aJh f.type++(sp::ps 61::sp::(pc f.body++ps 59::R))))):=by simp[aJC]
 obtain⟨q,hq⟩:=aDB (R:=ps 58::sp::(aJh f.type++(sp::ps 61::sp::(pc f.body++ps 59::R)))) h.n h.e (p+((ar (tW azf)).length:Int)+1)
 obtain⟨q2,dQ⟩:=aD5 (R:=sp::ps 61::sp::(pc f.body++ps 59::R)) h.t ⟨rfl,rfl⟩ (q+1+1)
 have hl2:(pc f.body++ps 59::R).length≤90000:=by rw[e]at hl;simp only[Z9,Z7]at hl ⊢;omega
 obtain⟨q3,vr⟩:=(adU f.body false h.b).q4 (ps 59::R) ⟨rfl,rfl⟩ rfl rfl hl2 (q2+1+1+1)
 refine⟨q3+1,?_⟩
 rw[e]
 unfold aJe
 rw[if_neg (by rw[ij];exact Bool.noConfusion),if_pos (by rw[ij];rfl),show(ak p (pw azf::sp::(pw f.name::sp::pw gj::sp::pw f.oX::(ps 58::sp::(aJh f.type++(sp::ps 61::sp::(pc f.body++ps 59::R))))))).tail=ak (p+((ar (tW azf)).length:Int)+1) (pw f.name::sp::pw gj::sp::pw f.oX::(ps 58::sp::(aJh f.type++(sp::ps 61::sp::(pc f.body++ps 59::R)))))from rfl]
 unfold Kh PR.map
 rw[hq,PR.aJ,tP,PR.aJ,show ak (q+1) (sp::(aJh f.type++(sp::ps 61::sp::(pc f.body++ps 59::R))))=ak (q+1+1) (aJh f.type++(sp::ps 61::sp::(pc f.body++ps 59::R)))from rfl,dQ,PR.aJ,
  show ak q2 (sp::ps 61::sp::(pc f.body++ps 59::R))=ak (q2+1) (ps 61::sp::(pc f.body++ps 59::R))from rfl,tP,PR.aJ,show ak (q2+1+1) (sp::(pc f.body++ps 59::R))=ak (q2+1+1+1) (pc f.body++ps 59::R)from rfl,vr,PR.aJ,tP,PR.aJ]
 rfl
def pcI:rX→List Pc
 | .O6 t=>aJI t
 | .Kg f=>aJC f
def OkI:rX→Prop
 | .O6 t=>aBO t
 | .Kg f=>aBN f
def aBQ:rX→rX
 | .O6 t=> .O6 t
 | .Kg f=> .Kg (aJt f)
def pcM:List rX→List Pc
 |[]=>[]
 |x::l=>pcI x++ .inl 10::pcM l
theorem aDD:∀ l:List rX,(∀ x∈l,OkI x)→cq (pcM l)
 |[],_=>trivial
 |x::l,h=>by
  have ih:cq (.inl 10::pcM l):=⟨by decide,aDD l fun y hy=>h y (ZX _ hy)⟩
  have hx:=h x ZU
  cases x with
  |O6 t=>exact aIW hx ih
  |Kg f=>exact aEJ hx ih
theorem aDx:∀ (l:List rX) (n:Nat) (p:Int) (m:oK),(∀ x∈l,OkI x)→l.length<n→(pcM l).length≤90000→aJk n (ak p (pcM l)) m []=((l.map aBQ).foldl IE m,[])
 |[],n,p,m,_,hn,_=>by
  obtain⟨k,rfl⟩:∃ k,n=k+1:=⟨n-1,by simp at hn;omega⟩
  rfl
 |x::l,n,p,m,h,hn,hl=>by
  obtain⟨k,rfl⟩:∃ k,n=k+1:=⟨n-1,by simp at hn;omega⟩
  have hl2:(pcM l).length≤90000:=by simp only[pcM,Z7,Z9]at hl;omega
  have hx:=h x ZU
  have key:∃ q,aJe (ak p (pcM (x::l)))= .ok (aBQ x) (ak q (.inl 10::pcM l)):=by
   cases x with
   |O6 t=>exact aIX hx _ p
   |Kg f=>exact aEK hx _ hl p
  obtain⟨q,hq⟩:=key
  have hk:¬(hd (ak p (pcM (x::l)))).kind=6:=by cases x<;>exact fun e=>absurd e (show¬(1:Int)=6 by decide)
  rw[aJk,if_neg hk,hq]
  simp only
  exact aDx l k (q+1) (IE m (aBQ x)) (fun y hy=>h y (ZX _ hy)) (by simp at hn;omega) hl2
theorem fold_add:∀ (ts:List gp) (fs:List mb) (m:oK),(((ts.map rX.O6)++(fs.map rX.Kg)).map aBQ).foldl IE m=⟨m.tables++ts,m.AK++fs.map aJt⟩
 |[],[],m=>by simp
 |[],f::fs,m=>by
  have:=fold_add [] fs (IE m (.Kg (aJt f)))
  simp only[YX,Ze,Zn]at this
  simp only[YX,Ze,ZH,List.foldl_cons,aBQ,Zn]
  rw[this];simp[IE]
 |t::ts,fs,m=>by
  have:=fold_add ts fs (IE m (.O6 t))
  simp only[ZH,ZD,List.foldl_cons,aBQ]
  rw[this];simp[IE]
def aJu(m:oK):List rX:=m.tables.map .O6++m.AK.map .Kg
theorem aFr{m:oK}{s:Bs}(h:∀ x∈aJu m,OkI x)(hs:s=aM (pcM (aJu m)))(hl:s.length≤16384):aBA s=(⟨m.tables,m.AK.map aJt⟩,[],0)∧dh s=(ak 0 (pcM (aJu m)),[]):=by
 have hok:=aDD _ h
 have ht:=ayN hok
 have hlen:=FX _ hok
 rw[← hs]at ht hlen
 refine⟨?_,ht⟩
 have hc:(aJu m).length≤(pcM (aJu m)).length:=by
  generalize aJu m=l
  induction l with
  |nil=>exact ZI _
  |cons x l ih=>simp only[pcM,Z7,Z9];omega
 have hr:=aDx (aJu m) N0 0 ⟨[],[]⟩ h (by show _<1000000;omega) (by omega)
 unfold aBA
 rw[if_neg (by omega),ht]
 simp only[hr]
 unfold aJu
 rw[fold_add];rfl
end
set_option maxHeartbeats 4000000
def aJD(t:gp):af:=if l6 t=0 then tU t else⟨#[]⟩
theorem aD1(t:gp):Pure Tryz.prog 27 [.agg t.cells] (.aI [sv (aJD t),iv (l6 t)]):=O9 t
def mb.lay(f:mb):List AV:=[sv f.name,sv f.oX,iv f.type.kind,.sl false 2 (f.type.unit.map aq.cells),sv f.type.of,iv f.body.kind,sv f.body.op,sv f.body.name,sv f.body.table,iv f.body.val.kind,iv f.body.val.n,sv f.body.val.s,.sl false 2 (f.body.unit.map aq.cells),iv f.body.param,iv f.body.win.kind,iv f.body.win.size,.sl false 12 (f.body.args.map Ex.row),iv f.version]
theorem aEO{f:mb}(h:Qj f):f.body.size≤100:=by
 have h2:=h.2.2
 have:=(DP f.body 80 (by decide)).2.2 h2
 omega
set_option maxHeartbeats 4000000
def jl(m:oK):List (af×Int):=m.tables.map fun t=>(aJD t,l6 t)
def lr(m:oK):List (af×Int):=m.AK.map fun f=>(aJz f,aJj f)
def aJd:List (af×Int)→Int
 |[]=>0
 |x::l=>if x.2=0 then aJd l else x.2
def aJc:List (af×Int)→af
 |[]=>⟨#[]⟩
 |x::l=>x.1++(⟨#[10]⟩++aJc l)
def aJg(m:oK):Int:=
 if aJd (jl m++lr m)≠0 then aJd (jl m++lr m)else if 16384<(aJc (jl m++lr m)).size then 2 else 0
def sy(m:oK):af:=if aJg m=0 then aJc (jl m++lr m)else⟨#[]⟩
theorem aBH:∀ (l r:List (af×Int)),aJd (l++r)=if aJd l=0 then aJd r else aJd l
 |[],r=>by simp[aJd]
 |x::l,r=>by
  rw[ZD,aJd,aJd,aBH l r]
  by_cases h:x.2=0
  ·rw[if_pos h,if_pos h]
  ·rw[if_neg h,if_neg h,if_neg h]
theorem aB8:∀ (l r:List (af×Int)),aJc (l++r)=aJc l++aJc r
 |[],r=>(xo _).symm
 |x::l,r=>by rw[ZD,aJc,aJc,aB8 l r];simp only[oO]
theorem aCv(l:List (af×Int))(x:af×Int):aJc (l++[x])=aJc l++x.1++⟨#[10]⟩:=by
 rw[aB8,aJc,aJc];simp only[oO,iA]
theorem aCc{α β:Type}[Inhabited α](g:α→β){l:List α}{i:Nat}(h:i<l.length):(l.map g).take (i+1)=(l.map g).take i++[g (l.getD i default)]:=by
 rw[← XZ,GD h,Y2,XZ];rfl
theorem aDp{l:List (af×Int)}{i:Nat}{x:af×Int}(h0:aJd (l.take i)=0)(h:l.take (i+1)=l.take i++[x])(hx:x.2≠0):aJd l=x.2:=by
 rw[← List.take_append_drop (i+1) l,aBH,h,aBH,if_pos h0,aJd,if_neg hx,if_neg hx]
theorem aDq{l:List (af×Int)}{i:Nat}{x:af×Int}(h0:aJd (l.take i)=0)(h:l.take (i+1)=l.take i++[x])(hx:x.2=0):aJd (l.take (i+1))=0:=by
 rw[h,aBH,if_pos h0,aJd,if_pos hx];rfl
theorem aCu{c:Nat}:∀ {l:List (af×Int)},(∀ x∈l,x.1.size≤c)→(aJc l).size≤l.length * (c+1)
 |[],_=>ZK _
 |x::l,h=>by
  have h1:=h x (by simp)
  have h2:=aCu (l:=l) fun y hy=>h y (by simp[hy])
  simp only[aJc,Z9,YL,Nat.one_mul]at *
  ((simp only[Z9,Z4,Z7,Z3,ZT,bK,bC,du,ZY];omega))
theorem aCH(t:gp):(aJD t).size≤60000:=by
 unfold aJD;split
 ·rename_i h
  have hT:=uE.of h
  have h1:=hT.n
  have h2:=hT.e
  have h3:=ayr hT
  have h4:= @Fi t.keep (by have:=hT.k;omega)
  unfold tU
  split
  all_goals((simp only[Z9,Z4,Z7,Z3,ZT,bK,bC,du,ZY];omega))
 ·decide
theorem aCo{f:mb}(hs:f.body.size≤100):(aJz f).size≤60000:=by
 unfold aJz;split
 ·rename_i h
  have h0:Name f.name∧Name f.oX∧il f.type=0∧shape f.body=0:=by
   unfold aJj at h
   split at h
   ·omega
   ·rename_i h1
    split at h
    ·rename_i h2;exact absurd h h2
    ·rename_i h2;exact⟨by grind,by grind,Y4.1 h2,h⟩
  have h1:=h0.1.size
  have h2:=h0.2.1.size
  have h3:=Pv h0.2.2.1
  have h4:=aD2 h0.2.2.2 hs
  unfold aJH
  ((simp only[Z9,Z4,Z7,Z3,ZT,bK,bC,du,ZY];omega))
 ·decide
theorem aB9(m:oK)(i:Nat)(h:m.tables.length≤20):(aJc ((jl m).take i)).size≤2000000:=by
 have h1:=aCu (c:=60000) (l:=(jl m).take i) (fun x hx=>by
  obtain⟨t,_,rfl⟩:=YS.1 (List.mem_of_mem_take hx);exact aCH t)
 have h2:((jl m).take i).length≤20:=by rw[ZT,jl,Z3];omega
 omega
theorem aCw(m:oK)(i:Nat)(h:m.AK.length≤20)(hb:∀ f∈m.AK,f.body.size≤100):(aJc ((lr m).take i)).size≤2000000:=by
 have h1:=aCu (c:=60000) (l:=(lr m).take i) (fun x hx=>by
  obtain⟨f,hf,rfl⟩:=YS.1 (List.mem_of_mem_take hx);exact aCo (hb f hf))
 have h2:((lr m).take i).length≤20:=by rw[ZT,lr,Z3];omega
 omega
structure oK.Small(m:oK):Prop where
 t:m.tables.length≤20
 f:m.AK.length≤20
 b:∀ f∈m.AK,f.body.size≤100
theorem aDw{m:oK}{i:Nat}{x:af×Int}(h0:aJd ((jl m).take i)=0)(h:(jl m).take (i+1)=(jl m).take i++[x])(hx:x.2≠0):aJg m=x.2:=by
 have h1:=aDp h0 h hx
 unfold aJg
 rw[aBH,h1,if_neg hx,if_pos hx]
theorem aFo{m:oK}{i:Nat}{x:af×Int}(h0:aJd ((jl m).take i)=0)(h:(jl m).take (i+1)=(jl m).take i++[x])(hx:x.2≠0):sy m=⟨#[]⟩:=if_neg (by rw[aDw h0 h hx];exact hx)
theorem aDv{m:oK}{i:Nat}{x:af×Int}(hT:aJd (jl m)=0)(h0:aJd ((lr m).take i)=0)(h:(lr m).take (i+1)=(lr m).take i++[x])(hx:x.2≠0):aJg m=x.2:=by
 have h1:=aDp h0 h hx
 unfold aJg
 rw[aBH,hT,if_pos rfl,h1,if_pos hx]
theorem aFn{m:oK}{i:Nat}{x:af×Int}(hT:aJd (jl m)=0)(h0:aJd ((lr m).take i)=0)(h:(lr m).take (i+1)=(lr m).take i++[x])(hx:x.2≠0):sy m=⟨#[]⟩:=if_neg (by rw[aDv hT h0 h hx];exact hx)
theorem aFm{m:oK}(hT:aJd (jl m)=0)(hF:aJd (lr m)=0):aJg m=if 16384<(aJc (jl m++lr m)).size then 2 else 0:=by
 unfold aJg
 rw[aBH,hT,if_pos rfl,hF,if_neg (by decide)]
def aJw(m:oK):Prop:=(∀ t∈m.tables,Qk t)∧(∀ f∈m.AK,Qj f)∧m.tables.length≤20∧m.AK.length≤20
instance (m:oK):Decidable (aJw m):=inferInstanceAs (Decidable (_∧_∧_∧_))
structure oK.Fits(m:oK):Prop where
 t:∀ t∈m.tables,t.Fits
 f:∀ f∈m.AK,f.Fits
theorem aCp(m:oK)(hm:m.Fits):Pure Tryz.prog 24 [.agg m.cells] (.v (.bool (decide (aJw m)))):=by
 refine k24.p fun σ=> ?_
 repeat'(first|exact .nil|refine .k0 ?_|refine .k1 ?_|refine .k2 ?_|refine .k6 ?_|refine .r1 ?_ ?_|(refine .m1 ?_ ?_;intro b)|fail)
 all_goals(try simp only[BL]at *)
 refine cQ (fun n rg σ'=>∃ i:Nat,i≤m.tables.length∧n=m.tables.length-i∧(∀ j,j<i→Qk (m.tables.getD j default))∧σ'=(1,b,bN.cells m.cells)::σ∧rg=[(1,.lp 1 b 0),(3,iv i)]) m.tables.length rfl ⟨_,_,Zr,Zs,0,ZK _,rfl,fun j hj=>absurd hj (by omega),rfl,rfl⟩ ?_
 rintro n _ _ ⟨i,hi,hn,hp,rfl,rfl⟩
 repeat'(first|exact .nil|refine .k0 ?_|refine .k1 ?_|refine .k2 ?_|refine .k4 ?_|refine .k6 ?_|refine .k7 ?_|refine .k8 ?_|refine .k9 ?_|(refine .cd ?_ ?_<;>(intro hc;skip))|refine .r1 ?_ ?_|(refine .m2 ?_ ?_;intro hlen)|refine .t1 ?_ ?_ ?_|refine .an rfl (by intro bx;first|exact aEQ (m.tables.getD i default) (hm.t _ (cW (by(simp only[BL]at *;omega))))|fail) ?_ ?_|fail)
 try any_goals(exact Zo)
 all_goals(try simp only[BL]at *)
 ·refine Sx.Fin.intro Zs (bf ?_)
  rintro⟨h,_⟩
  exact hc (h _ (cW (by omega)))
 ·refine⟨m.tables.length-(i+1),by omega,_,_,Zr,Zs,i+1,by omega,rfl,gW hp hc,rfl,by rw[eD (n:=m.tables.length) (by omega) (by assumption)]⟩
 have hT:m.tables.length≤20→∀ t∈m.tables,Qk t:=fun h=>rG (p:=Qk) (fun j hj=>hp j (by omega))
 clear hp
 refine cQ (fun n rg σ'=>∃ i:Nat,i≤m.AK.length∧n=m.AK.length-i∧(∀ j,j<i→Qj (m.AK.getD j default))∧σ'=(1,b,bN.cells m.cells)::σ∧rg=[(1,.lp 1 b 0),(4,iv i)]) m.AK.length rfl ⟨_,_,Zr,Zs,0,ZK _,rfl,fun j hj=>absurd hj (by omega),rfl,rfl⟩ ?_
 rintro n _ _ ⟨i,hi,hn,hp,rfl,rfl⟩
 repeat'(first|exact .nil|refine .k0 ?_|refine .k1 ?_|refine .k2 ?_|refine .k4 ?_|refine .k6 ?_|refine .k7 ?_|refine .k8 ?_|refine .k9 ?_|(refine .cd ?_ ?_<;>(intro hc;skip))|refine .r1 ?_ ?_|(refine .m2 ?_ ?_;intro hlen)|refine .t1 ?_ ?_ ?_|refine .an rfl (by intro bx;exact aEP (m.AK.getD i default) (hm.f _ (cW (by(simp only[BL]at *;omega))))) ?_ ?_|fail)
 try any_goals(exact Zo)
 all_goals(try simp only[BL]at *)
 ·refine Sx.Fin.intro Zs (bf ?_)
  rintro⟨_,h,_⟩
  exact hc (h _ (cW (by omega)))
 ·refine⟨m.AK.length-(i+1),by omega,_,_,Zr,Zs,i+1,by omega,rfl,gW hp hc,rfl,by rw[eD (n:=m.AK.length) (by omega) (by assumption)]⟩
 ·have hF:m.AK.length≤20→∀ f∈m.AK,Qj f:=fun h=>rG (p:=Qj) (fun j hj=>hp j (by omega))
  refine Sx.Fin.intro Zs (bd ?_)
  unfold aJw
  grind
set_option maxHeartbeats 4000000
theorem aJw.small{m:oK}(h:aJw m):m.Small:=⟨h.2.2.1,h.2.2.2,fun f hf=>aEO (h.2.1 f hf)⟩
end Go.Proofs.YtbihckigennlhaaGreatDoor
