/- Texts of expressions: the walk through the printer. -/
import Derived.Test.YtcccbdelfhgmlaaGreatDoorPc
import Derived.Test.YtcccbdelfhgmlaaGreatDoorZa
import Derived.Test.YtcccbdelfhgmlaaGreatDoorZf
import Derived.Test.YtcccbdelfhgmlaaGreatDoorWi
import Derived.Test.YtcccbdelfhgmlaaGreatDoorTm
import Derived.Test.YtcccbdelfhgmlaaGreatDoorCa
set_option linter.unusedSimpArgs false
set_option linter.unusedVariables false
set_option maxRecDepth 100000
set_option maxHeartbeats 4000000
namespace Go.Proofs.YtcccbdelfhgmlaaGreatDoor
open Go.Sx Go.Proofs
theorem TJ(x:Ex):Pure Tryz.prog 63 [.agg x.row] (iv (aK x)):=by
 rw[Ex.eT x]
 refine k63.p fun σ=> ?_
 repeat'(first|exact .nil|refine .k0 ?_|refine .k1 ?_|refine .k2 ?_|refine .k6 ?_|refine .k7 ?_|refine .k9 ?_|(refine .cd ?_ ?_<;>(intro hc;first|exact kf hc (by assumption)|skip))|refine .r1 ?_ ?_|(refine .m1 ?_ ?_;intro b)|fail)
 all_goals(try simp only[BL]at *)
 all_goals(refine Sx.Fin.intro Zs (bi ?_);unfold aK;grind)
theorem ax9(x:Ex)(h:mH x.win):Pure Tryz.prog 62 [.agg x.row] (sv (wF x.win)):=by
 have hw:0≤x.win.size∧x.win.size≤1099511627776:=by unfold mH at h;omega
 have hz:=Es x.win.size (by omega)
 have hi:=JS hw.1
 rw[Ex.eT x]
 refine k62.p fun σ=> ?_
 repeat'(first|exact .nil|refine .k0 ?_|refine .k1 ?_|refine .k2 ?_|refine .k6 ?_|refine .k7 ?_|refine .k9 ?_|(refine .cd ?_ ?_<;>(intro hc;skip))|refine .r1 ?_ ?_|(refine .m1 ?_ ?_;intro b)|refine .an rfl (by intro br;first|exact BT _ (by first|omega|fail)|exact pX _ rfl (Z7 rfl) (by simp only[iM,cS,ZS,Z6,ZW];omega)|fail) ?_ ?_|fail)
 all_goals(try simp only[BL]at *)
 any_goals((simp only[Z6,ZW,Z5,Z3,ZK,dQ,cS,fM,ZS];omega))
 all_goals(refine Sx.Fin.intro Zs (bs ?_);simp[wF,gY,nQ, *];done)
theorem agk(x:Ex)(h:ny x):Pure Tryz.prog 28 [.agg x.row] (sv (vM x)):=by
 have hv:o4 x.val:=⟨h.1,h.2.1⟩
 have hk:=hv.kinds
 have hs:=Vj hv
 obtain⟨hl,hu,ho⟩:=U9 h.2.2.1
 have hl:x.unit.length≤4:=hl
 have hu:∀ f∈x.unit,kC f:=hu
 have ho:x.name.size≤24:=ho
 have hz:=Vc hu hl
 rw[Ex.eT x]
 refine k28.p fun σ=> ?_
 repeat'(first|exact .nil|refine .k0 ?_|refine .k1 ?_|refine .k2 ?_|refine .k5 ?_|refine .k7 ?_|refine .k9 ?_|(refine .cd ?_ ?_<;>(intro hc;skip))|refine .r1 ?_ ?_|(refine .m1 ?_ ?_;intro b)|refine .an rfl (by intro br;first|exact axx x.unit hu hl|exact aei x.val hv|exact pX _ rfl (Z7 rfl) (by simp only[iM,cS,ZS,Z6,ZW];omega)) ?_ ?_|fail)
 all_goals(try simp only[BL]at *)
 any_goals((simp only[Z6,ZW,Z5,Z3,ZK,dQ,cS,fM,ZS];omega))
 all_goals(refine Sx.Fin.intro Zs (bs ?_);simp[vM,gY,nQ,De, *];done)
theorem SB(x:Ex):Pure Tryz.prog 29 [.agg x.row] (sv x.name):=by
 rw[Ex.eT x]
 refine k29.p fun σ=> ?_
 repeat'(first|exact .nil|refine .k0 ?_|refine .k1 ?_|refine .k2 ?_|refine .k7 ?_|refine .r1 ?_ ?_|(refine .m1 ?_ ?_;intro b)|fail)
 all_goals(try simp only[BL]at *)
 all_goals exact Sx.Fin.intro Zs rfl
structure Kids(x:Ex)(F:FuncId):Prop where
 t:∀ i,i<x.args.length→Pure Tryz.prog F [.agg (x.args.getD i default).row] (sv (tx x i))
 z:∀ i,i<x.args.length→(tx x i).size≤100000
theorem kJ{x:Ex}{F:FuncId}(h:Kids x F){i:Nat}{r:Int}(hi:i<x.args.length):(j0 x (tx x) i r).size≤100002:=by
 have:=h.z i hi
 have:= @uN x (tx x) i r
 omega
theorem kI(x:Ex)(h:Kids x 12)(i:Nat)(hi:i<x.args.length)(r:Int):Pure Tryz.prog 60 [.agg x.row,iv i,iv r] (sv (j0 x (tx x) i r)):=by
 have hz:=h.z i hi
 rw[Ex.eT x]
 refine k60.p fun σ=> ?_
 repeat'(first|exact .nil|refine .k0 ?_|refine .k1 ?_|refine .k2 ?_|refine .k7 ?_|refine .k9 ?_|(refine .cd ?_ ?_<;>(intro hc;skip))|refine .r1 ?_ ?_|(refine .l1 ?_;intro b)|(refine .m1 ?_ ?_;intro b)|refine .t1 ?_ ?_ ?_|refine .an rfl (by intro br;first|exact TJ (x.args.getD i default)|exact h.t i hi|exact pX _ rfl (Z7 rfl) (by simp only[iM,cS,ZS,Z6,ZW];omega)) ?_ ?_|fail)
 try any_goals(exact Zo)
 all_goals(try simp only[BL]at *)
 any_goals((simp only[Z6,ZW,Z5,Z3,ZK,dQ,cS,fM,ZS];omega))
 all_goals(refine Sx.Fin.intro Zs (bs ?_);first|(rw[j0,Z8 hc];simp only[par,gY,nQ];done)|(rw[j0,Z9 hc];done))
theorem uM(x:Ex)(T:Nat→ae)(i:Nat):j0 x T i 0=T i:=Z9 (by have:=(TG (x.args.getD i default)).1;omega)
theorem aa8(a:ae):(⟨#[]⟩:ae)++a=a:=ui (by simp)
theorem agm(x:Ex)(h:Kids x 12)(hl:x.args.length=1)(hn:x.name.size≤24):Pure Tryz.prog 30 [.agg x.row] (sv (x.name++(⟨#[32,111,102,32,40]⟩++(tx x 0++⟨#[41]⟩)))):=by
 have hz:= @kJ x _ h 0 0 (by omega)
 have h0:=uM x (tx x) 0
 rw[Ex.eT x]
 refine k30.p fun σ=> ?_
 repeat'(first|exact .nil|refine .k0 ?_|refine .k1 ?_|refine .k2 ?_|refine .k5 ?_|refine .k7 ?_|refine .r1 ?_ ?_|(refine .m1 ?_ ?_;intro b)|refine .an rfl (by intro br;first|(refine(kI x h 0 (by omega) 0).wk ?_;(repeat' first|exact .row|exact .refl _|refine .cons ?_ ?_|refine .agg ?_|fail);done)|exact pX _ rfl (Z7 rfl) (by simp only[iM,cS,ZS,Z6,ZW,pk];omega)) ?_ ?_|fail)
 all_goals(try simp only[BL]at *)
 any_goals((simp only[Z6,ZW,Z5,Z3,ZK,dQ,cS,fM,ZS];omega))
 all_goals(refine Sx.Fin.intro Zs (bs ?_);simp[gY,nQ, *];done)
theorem abK(x:Ex)(h:Kids x 12)(hl:x.args.length=3):Pure Tryz.prog 34 [.agg x.row] (sv (yq x (tx x))):=by
 have hz:= @kJ x _ h 0 0 (by omega)
 have fA:= @kJ x _ h 1 0 (by omega)
 have np:= @kJ x _ h 2 0 (by omega)
 have h0:=uM x (tx x) 0
 have h1:=uM x (tx x) 1
 have h2:=uM x (tx x) 2
 rw[Ex.eT x]
 refine k34.p fun σ=> ?_
 repeat'(first|exact .nil|refine .k0 ?_|refine .k1 ?_|refine .k2 ?_|refine .k5 ?_|refine .k7 ?_|refine .r1 ?_ ?_|(refine .m1 ?_ ?_;intro b)|refine .an rfl (by intro br;first|(refine(kI x h 0 (by omega) 0).wk ?_;(repeat' first|exact .row|exact .refl _|refine .cons ?_ ?_|refine .agg ?_|fail);done)|(refine(kI x h 1 (by omega) 0).wk ?_;(repeat' first|exact .row|exact .refl _|refine .cons ?_ ?_|refine .agg ?_|fail);done)|(refine(kI x h 2 (by omega) 0).wk ?_;(repeat' first|exact .row|exact .refl _|refine .cons ?_ ?_|refine .agg ?_|fail);done)|exact pX _ rfl (Z7 rfl) (by simp only[iM,cS,ZS,Z6,ZW,pk];omega)) ?_ ?_|fail)
 all_goals(try simp only[BL]at *)
 any_goals((simp only[Z6,ZW,Z5,Z3,ZK,dQ,cS,fM,ZS];omega))
 all_goals(refine Sx.Fin.intro Zs (bs ?_);simp[yq,gY,nQ, *];done)
theorem adZ(x:Ex)(h:Kids x 12)(hl:x.args.length=2):Pure Tryz.prog 35 [.agg x.row] (sv (xv x (tx x))):=by
 have hz:= @kJ x _ h 0 1 (by omega)
 have fA:= @kJ x _ h 1 2 (by omega)
 rw[Ex.eT x]
 refine k35.p fun σ=> ?_
 repeat'(first|exact .nil|refine .k0 ?_|refine .k1 ?_|refine .k2 ?_|refine .k5 ?_|refine .k7 ?_|refine .r1 ?_ ?_|(refine .m1 ?_ ?_;intro b)|refine .an rfl (by intro br;first|(refine(kI x h 0 (by omega) 1).wk ?_;(repeat' first|exact .row|exact .refl _|refine .cons ?_ ?_|refine .agg ?_|fail);done)|(refine(kI x h 1 (by omega) 2).wk ?_;(repeat' first|exact .row|exact .refl _|refine .cons ?_ ?_|refine .agg ?_|fail);done)|exact pX _ rfl (Z7 rfl) (by simp only[iM,cS,ZS,Z6,ZW,pk];omega)) ?_ ?_|fail)
 all_goals(try simp only[BL]at *)
 any_goals((simp only[Z6,ZW,Z5,Z3,ZK,dQ,cS,fM,ZS];omega))
 all_goals(refine Sx.Fin.intro Zs (bs ?_);simp[xv,gY,nQ, *];done)
theorem axq(x:Ex)(h:Kids x 12)(hl:x.args.length=1):Pure Tryz.prog 32 [.agg x.row] (sv (zI x (tx x))):=by
 have hz:= @kJ x _ h 0 0 (by omega)
 have fA:= @kJ x _ h 0 8 (by omega)
 have np:= @kJ x _ h 0 4 (by omega)
 have h0:=uM x (tx x) 0
 rw[Ex.eT x]
 refine k32.p fun σ=> ?_
 repeat'(first|exact .nil|refine .k0 ?_|refine .k1 ?_|refine .k2 ?_|refine .k6 ?_|refine .k7 ?_|refine .k9 ?_|(refine .cd ?_ ?_<;>(intro hc;skip))|refine .r1 ?_ ?_|(refine .m1 ?_ ?_;intro b)|refine .an rfl (by intro br;first|(refine(kI x h 0 (by omega) 0).wk ?_;(repeat' first|exact .row|exact .refl _|refine .cons ?_ ?_|refine .agg ?_|fail);done)|(refine(kI x h 0 (by omega) 8).wk ?_;(repeat' first|exact .row|exact .refl _|refine .cons ?_ ?_|refine .agg ?_|fail);done)|(refine(kI x h 0 (by omega) 4).wk ?_;(repeat' first|exact .row|exact .refl _|refine .cons ?_ ?_|refine .agg ?_|fail);done)|exact pX _ rfl (Z7 rfl) (by simp only[iM,cS,ZS,Z6,ZW,pk];omega)) ?_ ?_|fail)
 all_goals(try simp only[BL]at *)
 any_goals((simp only[Z6,ZW,Z5,Z3,ZK,dQ,cS,fM,ZS];omega))
 all_goals(refine Sx.Fin.intro Zs (bs ?_);simp[zI,gY,nQ, *];done)
theorem abq(x:Ex)(h:Kids x 12)(hl:x.args.length=2)(ho:x.op.size≤8):Pure Tryz.prog 33 [.agg x.row] (sv (xm x (tx x))):=by
 have hz:= @kJ x _ h 0 (aK x) (by omega)
 have fA:= @kJ x _ h 0 (IntKind.i64.wrap (aK x+1)) (by omega)
 have np:= @kJ x _ h 1 (IntKind.i64.wrap (aK x+1)) (by omega)
 have hr:=TG x
 rw[Ex.eT x]
 refine k33.p fun σ=> ?_
 repeat'(first|exact .nil|refine .k0 ?_|refine .k1 ?_|refine .k2 ?_|refine .k5 ?_|refine .k7 ?_|refine .k9 ?_|(refine .cd ?_ ?_<;>(intro hc;skip))|refine .r1 ?_ ?_|(refine .m1 ?_ ?_;intro b)|refine .an rfl (by intro br;first|(refine(TJ x).wk ?_;(repeat' first|exact .row|exact .refl _|refine .cons ?_ ?_|refine .agg ?_|fail);done)|(refine(kI x h 0 (by omega) (aK x)).wk ?_;(repeat' first|exact .row|exact .refl _|refine .cons ?_ ?_|refine .agg ?_|fail);done)|(refine(kI x h 0 (by omega) (IntKind.i64.wrap (aK x+1))).wk ?_;(repeat' first|exact .row|exact .refl _|refine .cons ?_ ?_|refine .agg ?_|fail);done)|(refine(kI x h 1 (by omega) (IntKind.i64.wrap (aK x+1))).wk ?_;(repeat' first|exact .row|exact .refl _|refine .cons ?_ ?_|refine .agg ?_|fail);done)|exact pX _ rfl (Z7 rfl) (by simp only[iM,cS,ZS,Z6,ZW,pk];omega)) ?_ ?_|fail)
 all_goals(try simp only[BL]at *)
 any_goals((simp only[Z6,ZW,Z5,Z3,ZK,dQ,cS,fM,ZS];omega))
 all_goals(refine Sx.Fin.intro Zs (bs ?_);have hw:IntKind.i64.wrap (aK x+1)=aK x+1:=bG (by omega)
           rw[hw];unfold xm ke;first|(simp only[hc,gY,nQ,Y4,Zf];done)|(simp only[hc,gY,nQ,Y4,Zf];rfl))
theorem axl{y:Ex}{q:Bool}(hf:form q y=true):y=ff↔y.kind=1∧y.val.kind=1∧y.val.n=1∧y.val.s=⟨#[]⟩:=by
 constructor
 ·rintro rfl;exact⟨rfl,rfl,rfl,rfl⟩
 ·rintro⟨h1,h2,h3,h4⟩
  refine PI hf ?_
  have hb:=(qw.of hf).nb
  unfold ie at hb
  rw[Z8 h1]at hb
  obtain⟨e1,e2,e3,e4⟩:=hb
  have hu:y.unit=[]∧y.name=⟨#[]⟩:=by
   unfold lq at e3
   split at e3
   ·omega
   ·rename_i h
    simp only[Num]at h
    constructor
    ·exact Y3.1 fun h'=>h (.inr (.inr (.inl ⟨h',by omega⟩)))
    ·exact Y3.1 fun h'=>h (.inr (.inr (.inr (.inr ⟨by omega,h'⟩))))
  obtain⟨f1,f2,f3,f4,f5,f6,f7,f8⟩:=e4
  exact⟨h1,f2,hu.2,f4,Vk.2 ⟨h2,h3,h4⟩,hu.1,f7,f8⟩
theorem aa3(x:Ex)(h:Kids x 12)(hl:x.args.length=2)(ho:x.op.size≤8)(ht:x.table.size≤24)(hw:mH x.win)(hp:0≤x.param∧x.param≤1073741824)(hf:form true (x.args.getD 1 default)=true):Pure Tryz.prog 31 [.agg x.row] (sv (eV x (tx x))):=by
 have hz:= @kJ x _ h 0 0 (by omega)
 have fA:= @kJ x _ h 1 0 (by omega)
 have h0:=uM x (tx x) 0
 have h1:=uM x (tx x) 1
 have hi:=JS hp.1
 have hz3:=Es x.param (by omega)
 have hz4:=VE hw
 rw[Ex.eT x]
 refine k31.p fun σ=> ?_
 repeat'(first|exact .nil|refine .k0 ?_|refine .k1 ?_|refine .k2 ?_|refine .k4 ?_|refine .k7 ?_|refine .k9 ?_|(refine .cd ?_ ?_<;>(intro hc;skip))|refine .r1 ?_ ?_|(refine .l1 ?_;intro b)|(refine .m1 ?_ ?_;intro b)|refine .t1 ?_ ?_ ?_|refine .an rfl (by intro br;first|(refine(ax9 x hw).wk ?_;(repeat' first|exact .row|exact .refl _|refine .cons ?_ ?_|refine .agg ?_|fail);done)|exact BT _ (by first|omega|fail)|(refine(kI x h 0 (by omega) 0).wk ?_;(repeat' first|exact .row|exact .refl _|refine .cons ?_ ?_|refine .agg ?_|fail);done)|(refine(kI x h 1 (by omega) 0).wk ?_;(repeat' first|exact .row|exact .refl _|refine .cons ?_ ?_|refine .agg ?_|fail);done)|exact pX _ rfl (Z7 rfl) (by simp only[iM,cS,ZS,Z6,ZW,pk];omega)) ?_ ?_|fail)
 try any_goals(exact Zo)
 all_goals(try simp only[BL]at *)
 any_goals((simp only[Z6,ZW,Z5,Z3,ZK,dQ,cS,fM,ZS];omega))
 try any_goals(simp only[pk,iM,cS,ZS,Z6,ZW];omega)
 all_goals(refine Sx.Fin.intro Zs (bs ?_);have hy:=axl hf;unfold eV aI;repeat' split
           all_goals first|(exfalso;grind)|(simp only[gY,nQ,aa8,De,h0,h1,hi];done))
theorem aw8 (x:Ex) (r:ae) (h:(x.kind=1∧Pure Tryz.prog 28 [.agg x.row] (sv r))
  ∨(x.kind=2∧Pure Tryz.prog 29 [.agg x.row] (sv r))∨(x.kind=3∧Pure Tryz.prog 29 [.agg x.row] (sv r))
  ∨(x.kind=4∧Pure Tryz.prog 30 [.agg x.row] (sv r))∨(x.kind=5∧Pure Tryz.prog 31 [.agg x.row] (sv r))
  ∨(x.kind=6∧Pure Tryz.prog 32 [.agg x.row] (sv r))∨(x.kind=7∧Pure Tryz.prog 33 [.agg x.row] (sv r))
  ∨(x.kind=8∧Pure Tryz.prog 34 [.agg x.row] (sv r))∨(x.kind=9∧Pure Tryz.prog 35 [.agg x.row] (sv r))):
  Pure Tryz.prog 12 [.agg x.row] (sv r):=by
 obtain⟨k,o,nm,t,v,u,p,w,ks⟩:=x
 simp only[Ex.kind]at h
 rcases h with⟨rfl,hC⟩|⟨rfl,hC⟩|⟨rfl,hC⟩|⟨rfl,hC⟩|⟨rfl,hC⟩|⟨rfl,hC⟩|⟨rfl,hC⟩|⟨rfl,hC⟩|⟨rfl,hC⟩
 all_goals rw[Ex.eT]
 all_goals rw[Ex.eT]at hC
 all_goals refine k12.p fun σ=> ?_
 repeat'(first|exact .nil|refine .k0 ?_|refine .k1 ?_|refine .k2 ?_|refine .k7 ?_|refine .r1 ?_ ?_|(refine .m1 ?_ ?_;intro b)|refine .an rfl (by intro br;(refine hC.wk ?_;(repeat' first|exact .refl _|fail);done)) ?_ ?_|(refine .l3 ?_;intro b)|refine .r6 ?_ ?_|refine .r7 ?_ ?_|fail)
 all_goals(try simp only[BL]at *)
 all_goals exact Sx.Fin.intro Zs rfl
theorem afW{x:Ex}{ins:Bool}(h:ie x ins):1≤x.kind∧x.kind≤9:=by
 unfold ie at h
 repeat' split at h
 all_goals first|omega|exact h.elim
theorem parts{x:Ex}{ins:Bool}(h:qw x ins):
  (x.kind=1→ny x∧x.args.length=0)∧(x.kind=2∨x.kind=3→oI x∧x.args.length=0)∧(x.kind=4→oI x∧x.args.length=1)∧(x.kind=5→sF x∧x.args.length=2)
  ∧(x.kind=6→x.args.length=1∧∃ y∈CH,x.op=y)∧(x.kind=7→x.args.length=2∧∃ y∈nR,x.op=y)∧(x.kind=8→x.args.length=3)∧(x.kind=9→x.args.length=2):=by
 have hb:=h.nb
 have hn:=h.nn
 unfold ie at hb
 unfold nB at hn
 refine⟨fun e=> ?_,fun e=> ?_,fun e=> ?_,fun e=> ?_,fun e=> ?_,fun e=> ?_,fun e=> ?_,fun e=> ?_⟩
 all_goals grind
theorem ahc{x:Ex}(h:qh x):0≤x.param∧x.param≤1073741824:=by
 unfold qh at h
 repeat' split at h
 all_goals omega
theorem agM(x:Ex):∀ ins,form ins x=true→x.size≤100→Pure Tryz.prog 12 [.agg x.row] (sv (text x)):=by
 induction x using Ex.ind with
 |h x ih=>
 intro ins hf hs
 have h:=qw.of hf
 have hk:Kids x 12:=by
  constructor
  ·intro i hi
   have:=Ex.Cr (gb hi)
   rw[FM hi]
   exact ih _ (gb hi) _ (h.sub _ (gb hi)) (by omega)
  ·intro i hi
   have:=Ex.Cr (gb hi)
   rw[FM hi]
   exact Zk (aw9 _ _ (h.sub _ (gb hi))) (by omega)
 obtain⟨p1,p2,p4,p5,p6,p7,p8,p9⟩:=parts h
 have hr:=afW h.nb
 refine aw8 x (text x) ?_
 rw[La]
 unfold CF
 have:x.kind=1∨x.kind=2∨x.kind=3∨x.kind=4∨x.kind=5∨x.kind=6∨x.kind=7∨x.kind=8∨x.kind=9:=by omega
 rcases this with e|e|e|e|e|e|e|e|e
 ·rw[Z8 e];exact .inl ⟨e,agk x (p1 e).1⟩
 ·simp only[e,Int.reduceEq,Zf];exact .inr (.inl ⟨trivial,SB x⟩)
 ·simp only[e,Int.reduceEq,Zf];exact .inr (.inr (.inl ⟨trivial,SB x⟩))
 ·simp only[e,Int.reduceEq,Zf,Y4];exact .inr (.inr (.inr (.inl ⟨trivial,agm x hk (p4 e).2 (p4 e).1.1.1.2.1⟩)))
 ·have hA:=(p5 e).1
  obtain⟨⟨y,hy,ho⟩,ht,hw,hp, -⟩:=hA
  have e1:=Nj y hy
  rw[← ho]at e1
  have hl:=(p5 e).2
  have h1:=h.sub _ (gb (i:=1) (by omega))
  rw[e]at h1
  simp only[e,Int.reduceEq,Zf,Y4]
  exact .inr (.inr (.inr (.inr (.inl ⟨trivial,aa3 x hk hl e1 ht.1.2.1 hw (ahc hp) (by simpa using h1)⟩))))
 ·simp only[e,Int.reduceEq,Zf,Y4];exact .inr (.inr (.inr (.inr (.inr (.inl ⟨trivial,axq x hk (p6 e).1⟩)))))
 ·obtain⟨hl,y,hy,ho⟩:=p7 e
  have e1:=Nx y hy
  rw[← ho]at e1
  simp only[e,Int.reduceEq,Zf,Y4]
  exact .inr (.inr (.inr (.inr (.inr (.inr (.inl ⟨trivial,abq x hk hl e1⟩))))))
 ·simp only[e,Int.reduceEq,Zf,Y4];exact .inr (.inr (.inr (.inr (.inr (.inr (.inr (.inl ⟨trivial,abK x hk (p8 e)⟩)))))))
 ·simp only[e,Int.reduceEq,Zf,Y4];exact .inr (.inr (.inr (.inr (.inr (.inr (.inr (.inr ⟨trivial,adZ x hk (p9 e)⟩)))))))
theorem Fq{x:Ex}(h:shape x=0):form false x=true:=by
 unfold shape at h
 split at h
 ·omega
 ·split at h
  ·assumption
  ·omega
def AP(x:Ex):ae:=if shape x=0 then text x else⟨#[]⟩
theorem bse{a b:ae}{n m:Int}(h:a=b)(h2:n=m):AV.aT [.v (.string a),.v (.int .i64 n)]= .aT [sv b,iv m]:=by rw[h,h2]
theorem adO(x:Ex)(hs:x.size≤100):Pure Tryz.prog 6 [.agg x.row] (.aT [sv (AP x),iv (shape x)]):=by
 rw[Ex.eT x]
 refine k6.p fun σ=> ?_
 repeat'(first|exact .nil|refine .k0 ?_|refine .k1 ?_|refine .k2 ?_|refine .k7 ?_|refine .k9 ?_|(refine .cd ?_ ?_<;>(intro hc;skip))|refine .r1 ?_ ?_|(refine .m1 ?_ ?_;intro b)|refine .an rfl (by intro br;first|(refine(Ui x (by omega)).wk ?_;(repeat' first|exact .row|exact .refl _|refine .cons ?_ ?_|refine .agg ?_|fail);done)|(refine(agM x false (Fq (by(simp only[BL]at *;omega))) hs).wk ?_;(repeat' first|exact .row|exact .refl _|refine .cons ?_ ?_|refine .agg ?_|fail);done)|fail) ?_ ?_|fail)
 all_goals(try simp only[BL]at *)
 all_goals(refine Sx.Fin.intro Zs (bse ?_ ?_)<;>first|rfl|exact(Z9 hc).symm|exact(Z8 hc).symm|exact hc.symm)
end Go.Proofs.YtcccbdelfhgmlaaGreatDoor
namespace Go.Sx
structure At(P:Program)[Glob P](f:FuncId)(xs:List AV)(r:AV)(σ:Store):Prop where
 sp:Spec P f xs σ fun r' σ'=>r'= .ret r∧σ'=σ
theorem At.wk{P:Program}[Glob P]{f:FuncId}{xs bs:List AV}{r:AV}{σ:Store}(h:At P f bs r σ)(hw:dc xs bs):At P f xs r σ:=
 ⟨fun M w0 w cs hI hR=>h.sp M w0 w cs hI (hw.sound hR)⟩
theorem N7{P:Program}[Glob P]{f:FuncId}{xs:List AV}{σ:Store}{K:AV→Store→Prop}{E:List PanicEntry→Store→Prop}{r:AV}(h:At P f xs r σ)(k:K r σ):se P f xs σ K E:=
 ⟨_,h.sp,fun _ _ ⟨e,e'⟩=>by cases e;subst e';exact k,fun _ _ ⟨e,_⟩=>by cases e⟩
theorem At.dF{P:Program}[Glob P][kG P]{f:FuncId}{fn:Func}{fc:FC}{xs:List AV}{r:AV}{σ:Store}{a:AC}(cfg:Nat→Nat)(hf:P.funcs[f]? =some fn)(hc:cK P fn=some fc)(ha:fc.code=a.erase)(hlen:xs.length≤fc.N)
  (h:WK P fc.N cfg (nE fc.res r σ) a [] (jZ 0 xs) σ):At P f xs r σ:=by
 have h1:=h.h.h
 rw[← ha]at h1
 refine⟨?_⟩
 have:=Spec.intro (Q:=fun r' σ'=>∃ x,r'= .ret x∧Wk x r∧Sub σ σ') hf hc hlen (h1.mono (fun e rg σ' hq=>by
  cases e with
  |normal=>obtain⟨x,h1,h2,h3⟩:=hq;exact⟨x,h1,x,rfl,h2,h3⟩
  |ret=>obtain⟨x,h1,h2,h3⟩:=hq;exact⟨x,h1,x,rfl,h2,h3⟩
  |_=>exact hq.elim))
 refine this.weak ?_
 rintro r' σ' ⟨x,rfl,h2,h3⟩
 exact⟨.ret r,σ,⟨rfl,rfl⟩,h3,h2⟩
section
variable {P:Program}[Glob P]{cfg:Nat→Nat}{K:ag→Store→Prop}{E:List PanicEntry→Store→Prop}{σ:Store}{l:List CI}{d:Nat}{v:AV}{xr:XR}{ps:List Prop}{g:Option (Nat×Bool)}{og:Option Bool}{xs:List AV}{args:List Operand}
theorem ME{f:FuncId}{r:AV}(h:aB xr g args=some (og,xs,ps))(hp:og.getD true=true→At P f xs r σ)(ak:OB ps)(k:VX P cfg l K E (bR og d r xr) σ):VX P cfg (⟨some d,.call f args,g⟩::l) K E xr σ:=by
 obtain⟨hc,he⟩:=cz h
 refine iT hc (fun hg=> ?_) (fun hg=> ?_)
 ·simp only[aj,he ak hg]
  refine N7 (hp hg) ?_
  rw[← fC hg];exact k.h
 ·rw[← fB hg (v:=r)];exact k.h
theorem W2{f:FuncId}{r fv:AV}{fo:Operand}{a c:Array Value}(h:aB xr g (fo::args)=some (og,fv::xs,ps))(hf:xF fv=some (f,a,c))(b7:iU P f=true)(hp:og.getD true=true→At P f (a.toList.map .v++xs++c.toList.map .v) r σ)(ak:OB ps)(k:VX P cfg l K E (bR og d r xr) σ):
  VX P cfg (⟨some d,.dY fo args,g⟩::l) K E xr σ:=by
 obtain⟨hc,he⟩:=cz h
 refine iT hc (fun hg=> ?_) (fun hg=> ?_)
 ·have:=he ak hg
  simp only[bo,ZT]at this
  simp only[aj,this.1,this.2,DH hf]
  refine⟨b7,N7 (hp hg) ?_⟩
  rw[← fC hg];exact k.h
 ·rw[← fB hg (v:=r)];exact k.h
end
theorem Wk.ptr(t b o:Nat):Wk (.v (.pointer (some ⟨b,o,none⟩))) (.lp t b o):=fun M x h=>by
 obtain rfl:=h.ay
 exact .lp t b o
end Go.Sx
namespace Go.Proofs.YtcccbdelfhgmlaaGreatDoor
open Go.Sx Go.Proofs
def HX(prev:List jX)(f:jX):Int:=if¬Name f.name then 3 else if∃ x∈prev,x.name=f.name then 121 else lq f.type
def DG:List jX→List jX→Int
 |_,[]=>0
 |prev,f::l=>if HX prev f=0 then DG (prev++[f]) l else HX prev f
def UW(t:gV):Int:=
 if¬(Name t.name∧Name t.nT∧0≤t.keep∧t.keep≤1099511627776)then 3 else if t.fields.length>8 then 2 else DG [] t.fields
theorem PE:∀ (l p:List jX),DG p l=0→∀ f∈l,Name f.name∧lq f.type=0
 |[],_,_,f,hf=>absurd hf (by simp)
 |g::l,p,h,f,hf=>by
  rw[DG]at h
  split at h
  ·rename_i h0
   rcases ZV.1 hf with rfl|hf
   ·unfold HX at h0
    split at h0
    ·omega
    ·rename_i hn
     split at h0
     ·omega
     ·exact⟨Y3.1 hn,h0⟩
   ·exact PE l _ h f hf
  ·rename_i h0;exact absurd h h0
structure MC(t:gV):Prop where
 n:t.name.size≤24
 e:t.nT.size≤24
 k:0≤t.keep∧t.keep≤1099511627776
 l:t.fields.length≤8
 f:∀ f∈t.fields,Name f.name∧lq f.type=0
theorem MC.of{t:gV}(h:UW t=0):MC t:=by
 unfold UW at h
 split at h
 ·omega
 ·rename_i h1
  have h1:=Y3.1 h1
  split at h
  ·omega
  ·exact⟨h1.1.1.2.1,h1.2.1.1.2.1,h1.2.2,by omega,PE _ _ h⟩
end Go.Proofs.YtcccbdelfhgmlaaGreatDoor
namespace Go.Sx
theorem dc.get{xs ys:List AV}(h:dc xs ys):xs.length=ys.length∧∀ j (h1:j<xs.length) (h2:j<ys.length),Wk xs[j] ys[j]:=by
 induction h with
 |nil=>exact⟨rfl,fun j h1=>absurd h1 (by simp)⟩
 |cons h t ih=>
  refine⟨by simp[ih.1],fun j h1 h2=> ?_⟩
  cases j with
  |zero=>exact h
  |succ j=>exact ih.2 j (by simpa using h1) (by simpa using h2)
inductive xh:List (List AV)→List (List AV)→Prop
 |nil:xh [] []
 |cons {x y:List AV} {xs ys:List (List AV)} (h:dc x y) (t:xh xs ys):xh (x::xs) (y::ys)
theorem xh.get{xs ys:List (List AV)}(h:xh xs ys):xs.length=ys.length∧∀ j (h1:j<xs.length) (h2:j<ys.length),dc xs[j] ys[j]:=by
 induction h with
 |nil=>exact⟨rfl,fun j h1=>absurd h1 (by simp)⟩
 |cons h t ih=>
  refine⟨by simp[ih.1],fun j h1 h2=> ?_⟩
  cases j with
  |zero=>exact h
  |succ j=>exact ih.2 j (by simpa using h1) (by simpa using h2)
theorem Wk.rows{nn:Bool}{n:Nat}{rows rows':List (List AV)}(h:xh rows rows'):Wk (.sl nn n rows) (.sl false n rows'):=fun M v hv=>by
 obtain⟨hl,hg⟩:=h.get
 cases hv with
 |nil _ _ a ha=>
  obtain rfl:rows'=[]:=ZO hl.symm
  exact .nil _ _ a (fun h=>nomatch h)
 |sl _ _ _ b off cap cs aQ hM hR hc hm=>
  rw[hl]
  refine .sl _ _ _ b off cap cs (fun i hi=> ?_) (fun k hk=>hM k (by rw[hl];exact hk)) (fun i hi j hj=> ?_) (by omega) hm
  ·have:=(hg i (by omega) hi).get.1
   rw[← this];exact aQ i (by omega)
  ·have I4:=(hg i (by omega) hi).get
   have:=hR i (by omega) j (by rw[I4.1];exact hj)
   exact I4.2 j (by rw[I4.1];exact hj) hj M _ this
end Go.Sx
namespace Go.Proofs.YtcccbdelfhgmlaaGreatDoor
open Go.Sx Go.Proofs
theorem Name.size{s:ae}(h:Name s):s.size≤24:=h.1.2.1
theorem aq.j1(f:aq):f.cells=[sv f.name,sv f.nT,iv f.type.kind,.sl false 2 (f.type.unit.map ar.cells),sv f.type.of,iv f.body.kind,sv f.body.op,sv f.body.name,sv f.body.table,iv f.body.val.kind,iv f.body.val.n,sv f.body.val.s,.sl false 2 (f.body.unit.map ar.cells),iv f.body.param,iv f.body.win.kind,iv f.body.win.size,.sl false 12 (f.body.args.map Ex.row),iv f.version]:=by rw[← Ex.j1];rfl
theorem adP(x:Ex)(hs:x.size≤100):Pure Tryz.prog 6 [.agg x.lay] (.aT [sv (AP x),iv (shape x)]):=by have:=adO x hs;rwa [Ex.eT x]at this
def Wb(t:gV):Prop:=(∀ f∈t.fields,f.name.size≤100∧Gj f.type)∧t.fields.length≤12∧t.name.size+t.nT.size≤200
instance (t:gV):Decidable (Wb t):=inferInstanceAs (Decidable (_∧_∧_))
structure gV.Fits(t:gV):Prop where
 n:t.name.size≤2 ^ 59
 e:t.nT.size≤2 ^ 59
 f:∀ f∈t.fields,f.type.of.size≤2 ^ 59
structure aq.Fits(f:aq):Prop where
 n:f.name.size≤2 ^ 59
 e:f.nT.size≤2 ^ 59
 t:f.type.of.size≤2 ^ 59
 b:f.body.wt≤2 ^ 60
def Wa(f:aq):Prop:=f.name.size+f.nT.size≤200∧Gj f.type∧0≤Pr f.body 80
instance (f:aq):Decidable (Wa f):=inferInstanceAs (Decidable (_∧_∧_))
set_option linter.unusedSectionVars false
set_option maxHeartbeats 8000000
theorem adM(s:List UInt8)(nn:Bool):Sx.Pure Tryz.prog 8 [.sl nn 1 (s.map ck)] (DA s):=adN aem aa4 agO acC s nn fun h=>axh h
theorem Oe{α:Type}(f:List Tok→PR α)(z:α)(s:Bs):(il f s).1.2=(uv f z s).2.2:=by
 unfold il uv
 split
 ·rfl
 ·split
  ·rename_i h;rw[h]
  ·rename_i h;rw[h];simp only
   cases f (eU s).1 with
   |err p c=>rfl
   |ok a L=>
    rw[PR.aH]
    simp only
    by_cases hk:(hd L).kind≠6
    ·rw[Z8 hk,Z8 hk];rfl
    ·rw[Z9 hk,Z9 hk]
theorem axF{α:Type}(f:List Tok→PR α)(z:α)(s:Bs):(if(uv f z s).2.2=0 then(il f s).2.getD z else z)=(uv f z s).1:=by
 rw[← Oe]
 unfold il uv
 split
 ·rfl
 ·split
  ·rename_i h;rw[h];simp
  ·rename_i h;rw[h];simp only
   cases f (eU s).1 with
   |err p c=>simp[PR.bind]
   |ok a L=>
    rw[PR.aH]
    simp only
    by_cases hk:(hd L).kind≠6
    ·rw[Z8 hk,Z8 hk];rfl
    ·rw[Z9 hk,Z9 hk];rfl
theorem Ux{α:Type}{f:List Tok→PR α}{a y:α}{s:Bs}(h:∀ z,uv f z s=(a,0,0))(hy:y≠a):(il f s).1.2=0∧(il f s).2=some a:=by
 have h0:=Oe f a s
 rw[h a]at h0
 refine⟨h0,?_⟩
 have hv:∀ z,(il f s).2.getD z=a:=fun z=>by
  have:=axF f z s
  rwa [h z,Z8 rfl]at this
 cases hB:(il f s).2 with
 |none=>exact absurd (by have:=hv y;rwa [hB]at this) hy
 |some b=>have:=hv a;rw[hB]at this;rw[← this];rfl
theorem KU{x:Ex}(h:shape x=0):x.size≤64:=by
 unfold shape at h
 split at h
 ·cases h
 ·omega
theorem O3{x:Ex}(h:shape x=0):AP x=text x:=Z8 h
theorem abj{x:Ex}(h:shape x=0)(nn:Bool):Sx.Pure Tryz.prog 8 [.sl nn 1 ((AP x).data.toList.map ck)] (.aT [.agg x.lay,iv 0,iv 0]):=by
 have hA:=adM (bL (text x)) nn
 have hy:ff≠x∨lu da ff≠x:=by
  by_cases e:ff=x
  ·right;subst e;intro e;cases e
  ·exact .inl e
 obtain⟨h1,h2⟩:(il (bW N0 false) (bL (text x))).1.2=0∧(il (bW N0 false) (bL (text x))).2=some x:=by
  rcases hy with hy|hy
  ·exact Ux (VC (Fq h) (KU h)) hy
  ·exact Ux (VC (Fq h) (KU h)) hy
 unfold DA at hA
 rw[Z8 h1,h2]at hA
 rw[O3 h]
 have e:x.lay=xA x:=(Ex.eT x).symm
 rw[e]
 exact hA
set_option maxHeartbeats 4000000
def Po:List AV:=[sv ⟨#[]⟩,sv ⟨#[]⟩,iv 0,.v (.slice none 0 0),sv ⟨#[]⟩,iv 0,sv ⟨#[]⟩,sv ⟨#[]⟩,sv ⟨#[]⟩,iv 0,iv 0,sv ⟨#[]⟩,.v (.slice none 0 0),iv 0,iv 0,iv 0,.v (.slice none 0 0),iv 0]
theorem agx(x:aq)(n:ae)(b c:Nat)(Y:cG)(τ:Store):At Tryz.prog 82 [.agg x.cells,.lp 3 b 0] (.v (.bool (decide (x.name=n)))) ((4,c,Y)::(3,b,cG.cells [sv n])::τ):=by
 refine At.dF (fun _=>0) Tryz.func82 aco adC (Z7 rfl) ?_
 repeat'(first|exact .nil|refine .k0 ?_|refine .k1 ?_|refine .k2 ?_|refine .k7 ?_|refine .r1 ?_ ?_|(refine .m1 ?_ ?_;intro b)|fail)
 all_goals(try simp only[BL]at *)
 ·exact Sx.Fin.intro Zs rfl
theorem RH(fs:List aq)(n:ae)(b c:Nat)(Y:cG)(τ:Store):At Tryz.prog 81 [.sl false 18 (fs.map aq.cells),.v (.func (.func 82) #[] #[.pointer (some ⟨b,0,none⟩)])] (iv (firstIdx (fun x=>decide (x.name=n)) fs 0)) ((4,c,Y)::(3,b,cG.cells [sv n])::τ):=by
 refine At.dF (fun _=>0) Tryz.func81 acn adB (Z7 rfl) ?_
 repeat'(first|exact .nil|refine .k0 ?_|refine .k1 ?_|refine .k2 ?_|refine .k6 ?_|refine .r1 ?_ ?_|(refine .m2 ?_ ?_;intro hlen)|fail)
 all_goals(try simp only[BL]at *)
 refine dU (fun m rg σ'=>∃ i:Nat,i≤fs.length∧m=fs.length-i∧(∀ j,j<i→¬(fs.getD j default).name=n)∧σ'=(4,c,Y)::(3,b,cG.cells [sv n])::τ∧rg=[(0,.sl false 18 (fs.map aq.cells)),(1,.v (.func (.func 82) #[] #[.pointer (some ⟨b,0,none⟩)])),(7,iv fs.length),(8,iv i)]) fs.length rfl ⟨_,_,Zr,Zs,0,ZH _,rfl,fun j hj=>absurd hj (by omega),rfl,rfl⟩ ?_
 rintro m _ _ ⟨i,hi,hn,hp,rfl,rfl⟩
 repeat'(first|exact .nil|refine .k0 ?_|refine .k1 ?_|refine .k2 ?_|refine .k6 ?_|refine .k7 ?_|refine .k8 ?_|refine .k9 ?_|(refine .cd ?_ ?_<;>(intro hc;skip))|refine .r1 ?_ ?_|refine .t1 ?_ ?_ ?_|fail)
 try any_goals(exact Zo)
 all_goals(try simp only[BL]at *)
 refine W2 rfl rfl (by rfl) (fun _=>(agx (fs.getD i default) n b c Y τ).wk (dc.cons (Wk.refl _) (dc.cons (Wk.ptr _ _ _) dc.nil))) OB.nil ?_
 repeat'(first|exact .nil|refine .k0 ?_|refine .k1 ?_|refine .k2 ?_|refine .k7 ?_|refine .k9 ?_|(refine .cd ?_ ?_<;>(intro hc;skip))|refine .r1 ?_ ?_|fail)
 all_goals(try simp only[BL]at *)
 ·rw[DD (p:=fun x:aq=>decide (x.name=n)) (l:=fs) (k:=0) (i:=i) (fun j hj=>Zn (hp j hj)) (by omega) (Zi hc),Zc]
  exact Zw
 ·refine⟨fs.length-(i+1),by omega,_,_,Zr,Zs,i+1,by omega,rfl,nS hp hc,rfl,by rw[iQ (by omega) hlen]⟩
 ·rw[DF (fun y hy=>Zn (FG (p:=fun y:aq=>¬y.name=n) (fun j hj=>hp j (by omega)) y hy))]
  exact Zw
theorem HT(p:aq→Bool):∀ (l:List aq) (k:Nat),(l.find? p=none∧firstIdx p l k= -1)∨∃ i:Nat,i<l.length∧firstIdx p l k=((k+i:Nat):Int)∧l.find? p=some (l.getD i default)
 |[],k=> .inl ⟨rfl,rfl⟩
 |x::l,k=>by
  unfold firstIdx
  by_cases h:p x=true
  ·exact .inr ⟨0,by simp,by simp[h],by simp[h]⟩
  ·rcases HT p l (k+1)with⟨h1,h2⟩|⟨i,h1,h2,h3⟩
   ·exact .inl ⟨by simp[h,h1],by simp[h,h2]⟩
   ·exact .inr ⟨i+1,by simpa using h1,by rw[Z9 h,h2];omega,by simp[h,h3]⟩
theorem aed(fs:List aq)(n:ae)(h:findF fs n=none):Pure Tryz.prog 51 [.sl false 18 (fs.map aq.cells),sv n] (.aT [.agg Po,.v (.bool false)]):=by
 have hi:=fun b c Y τ=>RH fs n b c Y τ
 have h2:firstIdx (fun x=>decide (x.name=n)) fs 0= -1:=by
  rcases HT (fun x=>decide (x.name=n)) fs 0 with⟨h1,h2⟩|⟨i,h3,h2,h1⟩
  ·exact h2
  ·unfold findF at h;rw[h]at h1;cases h1
 rw[h2]at hi
 refine RY.p fun σ=> ?_
 repeat'(first|exact .nil|refine .k0 ?_|refine .k1 ?_|refine .k2 ?_|refine .r1 ?_ ?_|(refine .l1 ?_;intro b)|(refine .m1 ?_ ?_;intro b)|fail)
 all_goals(try simp only[BL]at *)
 refine ME rfl (fun _=>hi _ _ _ _) OB.nil ?_
 repeat'(first|exact .nil|refine .k0 ?_|refine .k1 ?_|refine .k2 ?_|refine .k7 ?_|refine .k9 ?_|(refine .cd ?_ ?_<;>(intro hc;skip))|refine .r1 ?_ ?_|refine .t1 ?_ ?_ ?_|fail)
 try any_goals(exact Zo)
 all_goals(try simp only[BL]at *)
 all_goals first|(exfalso;omega)|((refine Sx.Fin.wk Zs ?_;repeat' first|exact .refl _|fail))|fail
theorem aee(fs:List aq)(n:ae)(f:aq)(h:findF fs n=some f):Pure Tryz.prog 51 [.sl false 18 (fs.map aq.cells),sv n] (.aT [.agg f.cells,.v (.bool true)]):=by
 have hi:=fun b c Y τ=>RH fs n b c Y τ
 obtain⟨i,h3,h2,h1⟩:∃ i:Nat,i<fs.length∧firstIdx (fun x=>decide (x.name=n)) fs 0=(i:Int)∧fs.getD i default=f:=by
  rcases HT (fun x=>decide (x.name=n)) fs 0 with⟨h1,h2⟩|⟨i,h3,h2,h1⟩
  ·unfold findF at h;rw[h]at h1;cases h1
  ·unfold findF at h;rw[h]at h1;cases h1;exact⟨i,h3,by rw[h2];omega,rfl⟩
 rw[h2]at hi
 subst h1
 refine RY.p fun σ=> ?_
 repeat'(first|exact .nil|refine .k0 ?_|refine .k1 ?_|refine .k2 ?_|refine .r1 ?_ ?_|(refine .l1 ?_;intro b)|(refine .m1 ?_ ?_;intro b)|fail)
 all_goals(try simp only[BL]at *)
 refine ME rfl (fun _=>hi _ _ _ _) OB.nil ?_
 repeat'(first|exact .nil|refine .k0 ?_|refine .k1 ?_|refine .k2 ?_|refine .k7 ?_|refine .k9 ?_|(refine .cd ?_ ?_<;>(intro hc;skip))|refine .r1 ?_ ?_|refine .t1 ?_ ?_ ?_|fail)
 try any_goals(exact Zo)
 all_goals(try simp only[BL]at *)
 all_goals first|(exfalso;omega)|((refine Sx.Fin.wk Zs ?_;repeat' first|exact .refl _|fail))|fail
theorem ad6(c:di)(n:ae)(h:findF c.features n=none):Pure Tryz.prog 24 [.agg c.cells,sv n] (.aT [.agg Po,.v (.bool false)]):=by
 refine RX.p fun σ=> ?_
 repeat'(first|exact .nil|refine .k0 ?_|refine .k1 ?_|refine .k2 ?_|refine .k7 ?_|refine .r1 ?_ ?_|(refine .l1 ?_;intro b)|(refine .m1 ?_ ?_;intro b)|refine .an rfl (by intro br;exact aed _ _ h) ?_ ?_|fail)
 all_goals(try simp only[BL]at *)
 all_goals first|((refine Sx.Fin.wk Zs ?_;repeat' first|exact .refl _|fail))|fail
theorem ad7(c:di)(n:ae)(f:aq)(h:findF c.features n=some f):Pure Tryz.prog 24 [.agg c.cells,sv n] (.aT [.agg f.cells,.v (.bool true)]):=by
 refine RX.p fun σ=> ?_
 repeat'(first|exact .nil|refine .k0 ?_|refine .k1 ?_|refine .k2 ?_|refine .k7 ?_|refine .r1 ?_ ?_|(refine .l1 ?_;intro b)|(refine .m1 ?_ ?_;intro b)|refine .an rfl (by intro br;exact aee _ _ _ h) ?_ ?_|fail)
 all_goals(try simp only[BL]at *)
 all_goals first|((refine Sx.Fin.wk Zs ?_;repeat' first|exact .refl _|fail))|fail
end Go.Proofs.YtcccbdelfhgmlaaGreatDoor
