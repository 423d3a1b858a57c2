/- Texts of expressions: the walk through the printer. -/
import Derived.Test.YtomhopcnkicknaaGreatDoorPc
set_option linter.unusedSimpArgs false
set_option linter.unusedVariables false
set_option maxRecDepth 100000
set_option maxHeartbeats 4000000
namespace Go.Proofs.YtomhopcnkicknaaGreatDoor
open _root_.Go.Proofs.Tryz
open Go.Sx Go.Proofs
theorem PY(x:Ex):Pure prog 155 [.agg x.row] (iv (eP x)):=by
 rw[Ex.bP x]
 refine aeA.p fun σ=> ?_
 repeat'(first|exact .nil|refine .k0 ?_|refine .k1 ?_|refine .k2 ?_|refine .k6 ?_|refine .k7 ?_|refine .k9 ?_|(refine .cd ?_ ?_<;>(intro hc;first|exact kf hc (by assumption)|skip))|refine .r1 ?_ ?_|(refine .m1 ?_ ?_;intro b)|fail)
 all_goals(try simp only[BL]at *)
 all_goals(refine Sx.Fin.intro Zs (bi ?_);unfold eP;grind)
def HX(k:Int)(s:ae):Int:=
 if s=⟨#[111,114]⟩then 2 else if s=⟨#[97,110,100]⟩then 3 else if s=⟨#[110,111,116]⟩then 4
 else if s=⟨#[61,61]⟩∨s=⟨#[33,61]⟩∨s=⟨#[60]⟩∨s=⟨#[60,61]⟩then 5 else if s=⟨#[42]⟩∨s=⟨#[47]⟩then 7
 else if s=⟨#[110,117,108,108]⟩then 9 else if k=6 then 8 else 6
theorem ag7(k:Int)(s:ae):Pure prog 216 [iv k,sv s] (iv (HX k s)):=by
 refine afh.p fun σ=> ?_
 repeat'(first|exact .nil|refine .k0 ?_|refine .k1 ?_|refine .k2 ?_|refine .k6 ?_|refine .k7 ?_|refine .k9 ?_|(refine .cd ?_ ?_<;>(intro hc;first|exact kf hc (by assumption)|skip))|refine .r1 ?_ ?_|fail)
 all_goals(try simp only[BL]at *)
 all_goals(refine Sx.Fin.intro Zs (bi ?_);simp[HX, *];done)
structure qQ(x:Ex):Prop where
 u:x.kind=6→∃ y∈qz,x.op=y
 b:x.kind=7→∃ y∈lg,x.op=y
theorem ahz{x:Ex}(h:qQ x)(hk:x.kind=6∨x.kind=7):HX x.kind x.op=eP x:=by
 rcases hk with hk|hk
 ·obtain⟨y,hy,ho⟩:=h.u hk
  unfold eP
  rw[Z6 (by omega),Z6 (by omega),Z3 hk,hk,ho]
  clear ho
  revert y
  decide
 ·obtain⟨y,hy,ho⟩:=h.b hk
  unfold eP
  rw[Z6 (by omega),Z6 (by omega),Z6 (by omega),Z3 hk,hk,ho]
  clear ho
  revert y
  decide
theorem Pn{x:Ex}{ins:Bool}(h:form ins x=true):qQ x:=by
 have hb:=(qK.of h).nb
 unfold gm at hb
 constructor
 ·intro hk
  rw[Z6 (by omega),Z6 (by omega),Z6 (by omega),Z6 (by omega),Z3 hk]at hb;exact hb.2
 ·intro hk
  rw[Z6 (by omega),Z6 (by omega),Z6 (by omega),Z6 (by omega),Z6 (by omega),Z3 hk]at hb;exact hb.2
theorem PW(x:Ex)(h:qQ x):Pure prog 174 [.agg x.row] (iv (eP x)):=by
 have h1:= @ahz x h
 rw[Ex.bP x]
 refine aeO.p fun σ=> ?_
 repeat'(first|exact .nil|refine .k0 ?_|refine .k1 ?_|refine .k2 ?_|refine .k6 ?_|refine .k7 ?_|refine .k9 ?_|(refine .cd ?_ ?_<;>(intro hc;first|exact kf hc (by assumption)|skip))|refine .r1 ?_ ?_|(refine .m1 ?_ ?_;intro b)|refine .an rfl (by intro aq;exact ag7 _ _) ?_ ?_|fail)
 all_goals(try simp only[BL]at *)
 all_goals(refine Sx.Fin.intro Zs (bi ?_);first|(rw[h1 (by omega)];done)|(unfold eP;simp[*];done)|fail)
theorem aM1(x:Ex)(h:kj x.win):Pure prog 154 [.agg x.row] (sv (ux x.win)):=by
 have hw:0≤x.win.size∧x.win.size≤1099511627776:=by unfold kj at h;omega
 have hz:=vY x.win.size (by omega)
 have hi:=zI hw.1
 rw[Ex.bP x]
 refine aez.p fun σ=> ?_
 repeat'(first|exact .nil|refine .k0 ?_|refine .k1 ?_|refine .k2 ?_|refine .k6 ?_|refine .k7 ?_|refine .k9 ?_|(refine .cd ?_ ?_<;>(intro hc;skip))|refine .r1 ?_ ?_|(refine .m1 ?_ ?_;intro b)|refine .an rfl (by intro aq;first|exact tQ _ (by first|omega|fail)|exact lM _ rfl (ZW rfl) (by simp only[fY,aV,Z2,Z8,Z5];omega)|fail) ?_ ?_|fail)
 all_goals(try simp only[BL]at *)
 any_goals((simp only[Z8,Z5,Z9,Z7,Z4,bz,aV,bU,Z2];omega))
 all_goals(refine Sx.Fin.intro Zs (bs ?_);simp[ux,dT,eS, *];done)
theorem aMZ(w:mh)(h:kj w):Pure prog 173 [.agg w.cells] (sv (ux w)):=by
 have hw:0≤w.size∧w.size≤1099511627776:=by unfold kj at h;omega
 have jo:=Bt w.size.toNat (by omega)
 rw[show((w.size.toNat:Nat):Int)=w.size by omega]at jo
 have hz:(Lib.decDigits w.size.toNat).length≤21:=pH (by omega)
 refine aeN.p fun σ=> ?_
 repeat'(first|exact .nil|refine .k0 ?_|refine .k1 ?_|refine .k2 ?_|refine .k6 ?_|refine .k7 ?_|refine .k9 ?_|(refine .cd ?_ ?_<;>(intro hc;skip))|refine .r1 ?_ ?_|(refine .m1 ?_ ?_;intro b)|refine .an rfl (by intro aq;exact jo) ?_ ?_|fail)
 all_goals(try simp only[BL]at *)
 any_goals((simp only[Z8,Z5,Z9,Z7,Z4,bz,aV,bU,Z2];omega))
 all_goals(refine Sx.Fin.intro Zs (bs ?_);simp[ux,iA, *];done)
theorem agh(x:Ex)(h:oT x):Pure prog 103 [.agg x.row] (sv (tU x)):=by
 have hv:mg x.val:=⟨h.1,h.2.1⟩
 have hk:=hv.kinds
 have hs:=Jb hv
 obtain⟨hl,hu,ho⟩:=DH h.2.2.1
 have hl:x.unit.length≤4:=hl
 have hu:∀ f∈x.unit,gb f:=hu
 have ho:x.name.size≤24:=ho
 have hz:=xb hu hl
 rw[Ex.bP x]
 refine adV.p fun σ=> ?_
 repeat'(first|exact .nil|refine .k0 ?_|refine .k1 ?_|refine .k2 ?_|refine .k5 ?_|refine .k7 ?_|refine .k9 ?_|(refine .cd ?_ ?_<;>(intro hc;skip))|refine .r1 ?_ ?_|(refine .m1 ?_ ?_;intro b)|refine .an rfl (by intro aq;first|exact Rl x.unit hu hl|exact acn x.val hv|exact lM _ rfl (ZW rfl) (by simp only[fY,aV,Z2,Z8,Z5];omega)) ?_ ?_|fail)
 all_goals(try simp only[BL]at *)
 any_goals((simp only[Z8,Z5,Z9,Z7,Z4,bz,aV,bU,Z2];omega))
 all_goals(refine Sx.Fin.intro Zs (bs ?_);simp[tU,dT,eS,eH, *];done)
theorem agd(x:Ex)(h:oT x):Pure prog 128 [.agg x.row] (sv (tU x)):=by
 have hv:mg x.val:=⟨h.1,h.2.1⟩
 have hk:=hv.kinds
 have hs:=Jb hv
 obtain⟨hl,hu,ho⟩:=DH h.2.2.1
 have hl:x.unit.length≤4:=hl
 have hu:∀ f∈x.unit,gb f:=hu
 have ho:x.name.size≤24:=ho
 have hz:=xb hu hl
 rw[Ex.bP x]
 refine aef.p fun σ=> ?_
 repeat'(first|exact .nil|refine .k0 ?_|refine .k1 ?_|refine .k2 ?_|refine .k5 ?_|refine .k7 ?_|refine .k9 ?_|(refine .cd ?_ ?_<;>(intro hc;skip))|refine .r1 ?_ ?_|(refine .m1 ?_ ?_;intro b)|refine .an rfl (by intro aq;first|exact Ri x.unit hu hl|exact acm x.val hv|fail) ?_ ?_|fail)
 all_goals(try simp only[BL]at *)
 any_goals(first|omega|(simp only[Z8,Z5,Z9,Z7,Z4,bz,aV,bU,Z2];omega))
 all_goals(refine Sx.Fin.intro Zs (bs ?_);simp[tU,dT,eS,eH, *];done)
theorem OZ(x:Ex):Pure prog 104 [.agg x.row] (sv x.name):=by
 rw[Ex.bP x]
 refine adW.p fun σ=> ?_
 repeat'(first|exact .nil|refine .k0 ?_|refine .k1 ?_|refine .k2 ?_|refine .k7 ?_|refine .r1 ?_ ?_|(refine .m1 ?_ ?_;intro b)|fail)
 all_goals(try simp only[BL]at *)
 all_goals exact Sx.Fin.intro Zs rfl
structure Kids(x:Ex)(F:FuncId):Prop where
 t:∀ i,i<x.args.length→Pure prog F [.agg (x.args.getD i default).row] (sv (tx x i))
 z:∀ i,i<x.args.length→(tx x i).size≤100000
theorem gd{x:Ex}{F:FuncId}(h:Kids x F){i:Nat}{r:Int}(hi:i<x.args.length):(ji x (tx x) i r).size≤100002:=by
 have:=h.z i hi
 have:= @sH x (tx x) i r
 omega
theorem kx(x:Ex)(h:Kids x 69)(i:Nat)(hi:i<x.args.length)(r:Int):Pure prog 153 [.agg x.row,iv i,iv r] (sv (ji x (tx x) i r)):=by
 have hz:=h.z i hi
 rw[Ex.bP x]
 refine aey.p fun σ=> ?_
 repeat'(first|exact .nil|refine .k0 ?_|refine .k1 ?_|refine .k2 ?_|refine .k7 ?_|refine .k9 ?_|(refine .cd ?_ ?_<;>(intro hc;skip))|refine .r1 ?_ ?_|(refine .l1 ?_;intro b)|(refine .m1 ?_ ?_;intro b)|refine .t1 ?_ ?_ ?_|refine .an rfl (by intro aq;first|exact PY (x.args.getD i default)|exact h.t i hi|exact lM _ rfl (ZW rfl) (by simp only[fY,aV,Z2,Z8,Z5];omega)) ?_ ?_|fail)
 try any_goals(exact Zo)
 all_goals(try simp only[BL]at *)
 any_goals((simp only[Z8,Z5,Z9,Z7,Z4,bz,aV,bU,Z2];omega))
 all_goals(refine Sx.Fin.intro Zs (bs ?_);first|(rw[ji,Z3 hc];simp only[par,dT,eS];done)|(rw[ji,Z6 hc];done))
theorem sG(x:Ex)(T:Nat→ae)(i:Nat):ji x T i 0=T i:=Z6 (by have:=(Ik (x.args.getD i default)).1;omega)
theorem pz(a:ae):(⟨#[]⟩:ae)++a=a:=j9 (by simp)
theorem agj(x:Ex)(h:Kids x 69)(hl:x.args.length=1)(hn:x.name.size≤24):Pure prog 105 [.agg x.row] (sv (x.name++(⟨#[32,111,102,32,40]⟩++(tx x 0++⟨#[41]⟩)))):=by
 have hz:= @gd x _ h 0 0 (by omega)
 have h0:=sG x (tx x) 0
 rw[Ex.bP x]
 refine adX.p fun σ=> ?_
 repeat'(first|exact .nil|refine .k0 ?_|refine .k1 ?_|refine .k2 ?_|refine .k5 ?_|refine .k7 ?_|refine .r1 ?_ ?_|(refine .m1 ?_ ?_;intro b)|refine .an rfl (by intro aq;first|(refine(kx x h 0 (by omega) 0).wk ?_;(repeat' first|exact .row|exact .refl _|refine .cons ?_ ?_|refine .agg ?_|fail);done)|exact lM _ rfl (ZW rfl) (by simp only[fY,aV,Z2,Z8,Z5,mj];omega)) ?_ ?_|fail)
 all_goals(try simp only[BL]at *)
 any_goals((simp only[Z8,Z5,Z9,Z7,Z4,bz,aV,bU,Z2];omega))
 all_goals(refine Sx.Fin.intro Zs (bs ?_);simp[dT,eS, *];done)
theorem W7(x:Ex)(h:Kids x 69)(hl:x.args.length=3):Pure prog 109 [.agg x.row] (sv (zD x (tx x))):=by
 have hz:= @gd x _ h 0 0 (by omega)
 have cj:= @gd x _ h 1 0 (by omega)
 have dt:= @gd x _ h 2 0 (by omega)
 have h0:=sG x (tx x) 0
 have h1:=sG x (tx x) 1
 have h2:=sG x (tx x) 2
 rw[Ex.bP x]
 refine ad1.p fun σ=> ?_
 repeat'(first|exact .nil|refine .k0 ?_|refine .k1 ?_|refine .k2 ?_|refine .k5 ?_|refine .k7 ?_|refine .r1 ?_ ?_|(refine .m1 ?_ ?_;intro b)|refine .an rfl (by intro aq;first|(refine(kx x h 0 (by omega) 0).wk ?_;(repeat' first|exact .row|exact .refl _|refine .cons ?_ ?_|refine .agg ?_|fail);done)|(refine(kx x h 1 (by omega) 0).wk ?_;(repeat' first|exact .row|exact .refl _|refine .cons ?_ ?_|refine .agg ?_|fail);done)|(refine(kx x h 2 (by omega) 0).wk ?_;(repeat' first|exact .row|exact .refl _|refine .cons ?_ ?_|refine .agg ?_|fail);done)|exact lM _ rfl (ZW rfl) (by simp only[fY,aV,Z2,Z8,Z5,mj];omega)) ?_ ?_|fail)
 all_goals(try simp only[BL]at *)
 any_goals((simp only[Z8,Z5,Z9,Z7,Z4,bz,aV,bU,Z2];omega))
 all_goals(refine Sx.Fin.intro Zs (bs ?_);simp[zD,dT,eS, *];done)
theorem abw(x:Ex)(h:Kids x 69)(hl:x.args.length=2):Pure prog 110 [.agg x.row] (sv (xZ x (tx x))):=by
 have hz:= @gd x _ h 0 1 (by omega)
 have cj:= @gd x _ h 1 2 (by omega)
 rw[Ex.bP x]
 refine ad2.p fun σ=> ?_
 repeat'(first|exact .nil|refine .k0 ?_|refine .k1 ?_|refine .k2 ?_|refine .k5 ?_|refine .k7 ?_|refine .r1 ?_ ?_|(refine .m1 ?_ ?_;intro b)|refine .an rfl (by intro aq;first|(refine(kx x h 0 (by omega) 1).wk ?_;(repeat' first|exact .row|exact .refl _|refine .cons ?_ ?_|refine .agg ?_|fail);done)|(refine(kx x h 1 (by omega) 2).wk ?_;(repeat' first|exact .row|exact .refl _|refine .cons ?_ ?_|refine .agg ?_|fail);done)|exact lM _ rfl (ZW rfl) (by simp only[fY,aV,Z2,Z8,Z5,mj];omega)) ?_ ?_|fail)
 all_goals(try simp only[BL]at *)
 any_goals((simp only[Z8,Z5,Z9,Z7,Z4,bz,aV,bU,Z2];omega))
 all_goals(refine Sx.Fin.intro Zs (bs ?_);simp[xZ,dT,eS, *];done)
theorem aMt(x:Ex)(h:Kids x 69)(hl:x.args.length=1):Pure prog 107 [.agg x.row] (sv (wY x (tx x))):=by
 have hz:= @gd x _ h 0 0 (by omega)
 have cj:= @gd x _ h 0 8 (by omega)
 have dt:= @gd x _ h 0 4 (by omega)
 have h0:=sG x (tx x) 0
 rw[Ex.bP x]
 refine adZ.p fun σ=> ?_
 repeat'(first|exact .nil|refine .k0 ?_|refine .k1 ?_|refine .k2 ?_|refine .k6 ?_|refine .k7 ?_|refine .k9 ?_|(refine .cd ?_ ?_<;>(intro hc;skip))|refine .r1 ?_ ?_|(refine .m1 ?_ ?_;intro b)|refine .an rfl (by intro aq;first|(refine(kx x h 0 (by omega) 0).wk ?_;(repeat' first|exact .row|exact .refl _|refine .cons ?_ ?_|refine .agg ?_|fail);done)|(refine(kx x h 0 (by omega) 8).wk ?_;(repeat' first|exact .row|exact .refl _|refine .cons ?_ ?_|refine .agg ?_|fail);done)|(refine(kx x h 0 (by omega) 4).wk ?_;(repeat' first|exact .row|exact .refl _|refine .cons ?_ ?_|refine .agg ?_|fail);done)|exact lM _ rfl (ZW rfl) (by simp only[fY,aV,Z2,Z8,Z5,mj];omega)) ?_ ?_|fail)
 all_goals(try simp only[BL]at *)
 any_goals((simp only[Z8,Z5,Z9,Z7,Z4,bz,aV,bU,Z2];omega))
 all_goals(refine Sx.Fin.intro Zs (bs ?_);simp[wY,dT,eS, *];done)
theorem WH(x:Ex)(h:Kids x 69)(hl:x.args.length=2)(ho:x.op.size≤8):Pure prog 108 [.agg x.row] (sv (uU x (tx x))):=by
 have hz:= @gd x _ h 0 (eP x) (by omega)
 have cj:= @gd x _ h 0 (IntKind.i64.wrap (eP x+1)) (by omega)
 have dt:= @gd x _ h 1 (IntKind.i64.wrap (eP x+1)) (by omega)
 have hr:=Ik x
 rw[Ex.bP x]
 refine ad0.p fun σ=> ?_
 repeat'(first|exact .nil|refine .k0 ?_|refine .k1 ?_|refine .k2 ?_|refine .k5 ?_|refine .k7 ?_|refine .k9 ?_|(refine .cd ?_ ?_<;>(intro hc;skip))|refine .r1 ?_ ?_|(refine .m1 ?_ ?_;intro b)|refine .an rfl (by intro aq;first|(refine(PY x).wk ?_;(repeat' first|exact .row|exact .refl _|refine .cons ?_ ?_|refine .agg ?_|fail);done)|(refine(kx x h 0 (by omega) (eP x)).wk ?_;(repeat' first|exact .row|exact .refl _|refine .cons ?_ ?_|refine .agg ?_|fail);done)|(refine(kx x h 0 (by omega) (IntKind.i64.wrap (eP x+1))).wk ?_;(repeat' first|exact .row|exact .refl _|refine .cons ?_ ?_|refine .agg ?_|fail);done)|(refine(kx x h 1 (by omega) (IntKind.i64.wrap (eP x+1))).wk ?_;(repeat' first|exact .row|exact .refl _|refine .cons ?_ ?_|refine .agg ?_|fail);done)|exact lM _ rfl (ZW rfl) (by simp only[fY,aV,Z2,Z8,Z5,mj];omega)) ?_ ?_|fail)
 all_goals(try simp only[BL]at *)
 any_goals((simp only[Z8,Z5,Z9,Z7,Z4,bz,aV,bU,Z2];omega))
 all_goals(refine Sx.Fin.intro Zs (bs ?_);have hw:IntKind.i64.wrap (eP x+1)=eP x+1:=aM (by omega)
           rw[hw];unfold uU CM;first|(simp only[hc,dT,eS,YV,Za];done)|(simp only[hc,dT,eS,YV,Za];rfl))
theorem aMo{y:Ex}{q:Bool}(hf:form q y=true):y=kV↔y.kind=1∧y.val.kind=1∧y.val.n=1∧y.val.s=⟨#[]⟩:=by
 constructor
 ·rintro rfl;exact⟨rfl,rfl,rfl,rfl⟩
 ·rintro⟨h1,h2,h3,h4⟩
  refine L6 hf ?_
  have hb:=(qK.of hf).nb
  unfold gm at hb
  rw[Z3 h1]at hb
  obtain⟨e1,e2,e3,e4⟩:=hb
  have hu:y.unit=[]∧y.name=⟨#[]⟩:=by
   unfold dO at e3
   split at e3
   ·omega
   ·rename_i h
    simp only[Num]at h
    grind
  obtain⟨f1,f2,f3,f4,f5,f6,f7,f8⟩:=e4
  exact⟨h1,f2,hu.2,f4,Jc.2 ⟨h2,h3,h4⟩,hu.1,f7,f8⟩
theorem Wp(x:Ex)(h:Kids x 69)(hl:x.args.length=2)(ho:x.op.size≤8)(ht:x.table.size≤24)(hw:kj x.win)(hp:0≤x.param∧x.param≤1073741824)(hf:form true (x.args.getD 1 default)=true):Pure prog 106 [.agg x.row] (sv (en x (tx x))):=by
 have hz:= @gd x _ h 0 0 (by omega)
 have cj:= @gd x _ h 1 0 (by omega)
 have h0:=sG x (tx x) 0
 have h1:=sG x (tx x) 1
 have hi:=zI hp.1
 have G4:=vY x.param (by omega)
 have hz4:=Jm hw
 rw[Ex.bP x]
 refine adY.p fun σ=> ?_
 repeat'(first|exact .nil|refine .k0 ?_|refine .k1 ?_|refine .k2 ?_|refine .k4 ?_|refine .k7 ?_|refine .k9 ?_|(refine .cd ?_ ?_<;>(intro hc;skip))|refine .r1 ?_ ?_|(refine .l1 ?_;intro b)|(refine .m1 ?_ ?_;intro b)|refine .t1 ?_ ?_ ?_|refine .an rfl (by intro aq;first|(refine(aM1 x hw).wk ?_;(repeat' first|exact .row|exact .refl _|refine .cons ?_ ?_|refine .agg ?_|fail);done)|exact tQ _ (by first|omega|fail)|(refine(kx x h 0 (by omega) 0).wk ?_;(repeat' first|exact .row|exact .refl _|refine .cons ?_ ?_|refine .agg ?_|fail);done)|(refine(kx x h 1 (by omega) 0).wk ?_;(repeat' first|exact .row|exact .refl _|refine .cons ?_ ?_|refine .agg ?_|fail);done)|exact lM _ rfl (ZW rfl) (by simp only[fY,aV,Z2,Z8,Z5,mj];omega)) ?_ ?_|fail)
 try any_goals(exact Zo)
 all_goals(try simp only[BL]at *)
 any_goals((simp only[Z8,Z5,Z9,Z7,Z4,bz,aV,bU,Z2];omega))
 try any_goals(simp only[mj,fY,aV,Z2,Z8,Z5];omega)
 all_goals(refine Sx.Fin.intro Zs (bs ?_);have hy:=aMo hf;unfold en aY;repeat' split
           all_goals first|(exfalso;grind)|(simp only[dT,eS,pz,eH,h0,h1,hi];done))
theorem aMk (x:Ex) (r:ae) (h:(x.kind=1∧Pure prog 103 [.agg x.row] (sv r))
  ∨(x.kind=2∧Pure prog 104 [.agg x.row] (sv r))∨(x.kind=3∧Pure prog 104 [.agg x.row] (sv r))
  ∨(x.kind=4∧Pure prog 105 [.agg x.row] (sv r))∨(x.kind=5∧Pure prog 106 [.agg x.row] (sv r))
  ∨(x.kind=6∧Pure prog 107 [.agg x.row] (sv r))∨(x.kind=7∧Pure prog 108 [.agg x.row] (sv r))
  ∨(x.kind=8∧Pure prog 109 [.agg x.row] (sv r))∨(x.kind=9∧Pure prog 110 [.agg x.row] (sv r))):
  Pure prog 69 [.agg x.row] (sv r):=by
 obtain⟨k,o,nm,t,v,u,p,w,ks⟩:=x
 simp only[Ex.kind]at h
 rcases h with⟨rfl,hC⟩|⟨rfl,hC⟩|⟨rfl,hC⟩|⟨rfl,hC⟩|⟨rfl,hC⟩|⟨rfl,hC⟩|⟨rfl,hC⟩|⟨rfl,hC⟩|⟨rfl,hC⟩
 all_goals rw[Ex.bP]
 all_goals rw[Ex.bP]at hC
 all_goals refine k69.p fun σ=> ?_
 repeat'(first|exact .nil|refine .k0 ?_|refine .k1 ?_|refine .k2 ?_|refine .k7 ?_|refine .r1 ?_ ?_|(refine .m1 ?_ ?_;intro b)|refine .an rfl (by intro aq;(refine hC.wk ?_;(repeat' first|exact .refl _|fail);done)) ?_ ?_|(refine .l3 ?_;intro b)|refine .r6 ?_ ?_|refine .r7 ?_ ?_|fail)
 all_goals(try simp only[BL]at *)
 all_goals exact Sx.Fin.intro Zs rfl
theorem On{x:Ex}{ins:Bool}(h:gm x ins):1≤x.kind∧x.kind≤9:=by
 unfold gm at h
 repeat' split at h
 all_goals first|omega|exact h.elim
theorem parts{x:Ex}{ins:Bool}(h:qK x ins):
  (x.kind=1→oT x∧x.args.length=0)∧(x.kind=2∨x.kind=3→oV x∧x.args.length=0)∧(x.kind=4→oV x∧x.args.length=1)∧(x.kind=5→qS x∧x.args.length=2)
  ∧(x.kind=6→x.args.length=1∧∃ y∈qz,x.op=y)∧(x.kind=7→x.args.length=2∧∃ y∈lg,x.op=y)∧(x.kind=8→x.args.length=3)∧(x.kind=9→x.args.length=2):=by
 have hb:=h.nb
 have hn:=h.nn
 unfold gm at hb
 unfold iY at hn
 refine⟨fun e=> ?_,fun e=> ?_,fun e=> ?_,fun e=> ?_,fun e=> ?_,fun e=> ?_,fun e=> ?_,fun e=> ?_⟩
 all_goals grind
theorem PA{x:Ex}(h:lQ x):0≤x.param∧x.param≤1073741824:=by
 unfold lQ at h
 repeat' split at h
 all_goals omega
theorem agQ(x:Ex):∀ ins,form ins x=true→x.size≤100→Pure prog 69 [.agg x.row] (sv (text x)):=by
 induction x using Ex.ind with
 |h x ih=>
 intro ins hf hs
 have h:=qK.of hf
 have hk:Kids x 69:=by
  constructor
  ·intro i hi
   have:=Ex.qq (bu hi)
   rw[Ap hi]
   exact ih _ (bu hi) _ (h.sub _ (bu hi)) (by omega)
  ·intro i hi
   have:=Ex.qq (bu hi)
   rw[Ap hi]
   exact ZJ (IX _ _ (h.sub _ (bu hi))) (by omega)
 obtain⟨p1,p2,p4,p5,p6,p7,p8,p9⟩:=parts h
 have hr:=On h.nb
 refine aMk x (text x) ?_
 rw[IW]
 unfold An
 have:x.kind=1∨x.kind=2∨x.kind=3∨x.kind=4∨x.kind=5∨x.kind=6∨x.kind=7∨x.kind=8∨x.kind=9:=by omega
 rcases this with e|e|e|e|e|e|e|e|e
 ·rw[Z3 e];exact .inl ⟨e,agh x (p1 e).1⟩
 ·simp only[e,Int.reduceEq,Za];exact .inr (.inl ⟨trivial,OZ x⟩)
 ·simp only[e,Int.reduceEq,Za];exact .inr (.inr (.inl ⟨trivial,OZ x⟩))
 ·simp only[e,Int.reduceEq,Za,YV];exact .inr (.inr (.inr (.inl ⟨trivial,agj x hk (p4 e).2 (p4 e).1.1.1.2.1⟩)))
 ·have hA:=(p5 e).1
  obtain⟨⟨y,hy,ho⟩,ht,hw,hp, -⟩:=hA
  have e1:=EA y hy
  rw[← ho]at e1
  have hl:=(p5 e).2
  have h1:=h.sub _ (bu (i:=1) (by omega))
  rw[e]at h1
  simp only[e,Int.reduceEq,Za,YV]
  exact .inr (.inr (.inr (.inr (.inl ⟨trivial,Wp x hk hl e1 ht.1.2.1 hw (PA hp) (by simpa using h1)⟩))))
 ·simp only[e,Int.reduceEq,Za,YV];exact .inr (.inr (.inr (.inr (.inr (.inl ⟨trivial,aMt x hk (p6 e).1⟩)))))
 ·obtain⟨hl,y,hy,ho⟩:=p7 e
  have e1:=EF y hy
  rw[← ho]at e1
  simp only[e,Int.reduceEq,Za,YV]
  exact .inr (.inr (.inr (.inr (.inr (.inr (.inl ⟨trivial,WH x hk hl e1⟩))))))
 ·simp only[e,Int.reduceEq,Za,YV];exact .inr (.inr (.inr (.inr (.inr (.inr (.inr (.inl ⟨trivial,W7 x hk (p8 e)⟩)))))))
 ·simp only[e,Int.reduceEq,Za,YV];exact .inr (.inr (.inr (.inr (.inr (.inr (.inr (.inr ⟨trivial,abw x hk (p9 e)⟩)))))))
theorem xQ(x:Ex)(h:Kids x 80)(i:Nat)(hi:i<x.args.length)(cO:qQ (x.args.getD i default))(r:Int):Pure prog 132 [.agg (x.args.getD i default).row,iv r] (sv (ji x (tx x) i r)):=by
 have hz:=h.z i hi
 rw[Ex.bP (x.args.getD i default)]
 refine aej.p fun σ=> ?_
 repeat'(first|exact .nil|refine .k0 ?_|refine .k1 ?_|refine .k2 ?_|refine .k7 ?_|refine .k9 ?_|(refine .cd ?_ ?_<;>(intro hc;skip))|refine .r1 ?_ ?_|(refine .m1 ?_ ?_;intro b)|refine .an rfl (by intro aq;first|(refine(h.t i hi).wk ?_;(repeat' first|exact .row|exact .refl _|refine .cons ?_ ?_|refine .agg ?_|fail);done)|(refine(PW (x.args.getD i default) cO).wk ?_;(repeat' first|exact .row|exact .refl _|refine .cons ?_ ?_|refine .agg ?_|fail);done)) ?_ ?_|fail)
 all_goals(try simp only[BL]at *)
 try any_goals((simp only[Z8,Z5,Z9,Z7,Z4,bz,aV,bU,Z2];omega))
 all_goals(refine Sx.Fin.intro Zs (bs ?_);first|(rw[ji,Z3 hc];simp only[par,eH];done)|(rw[ji,Z6 hc];done))
theorem aMr(x:Ex)(h:Kids x 80)(cO:∀ i,i<x.args.length→qQ (x.args.getD i default))(hl:x.args.length=1):Pure prog 130 [.agg x.row] (sv (wY x (tx x))):=by
 have hz:=h.z 0 (by omega)
 have cj:= @gd x _ h 0 8 (by omega)
 have dt:= @gd x _ h 0 4 (by omega)
 rw[Ex.bP x]
 refine aeh.p fun σ=> ?_
 repeat'(first|exact .nil|refine .k0 ?_|refine .k1 ?_|refine .k2 ?_|refine .k6 ?_|refine .k7 ?_|refine .k9 ?_|(refine .cd ?_ ?_<;>(intro hc;skip))|refine .r1 ?_ ?_|(refine .m1 ?_ ?_;intro b)|refine .t1 ?_ ?_ ?_|refine .an rfl (by intro aq;first|exact h.t 0 (by omega)|exact xQ x h 0 (by omega) (cO 0 (by omega)) _|fail) ?_ ?_|fail)
 try any_goals(exact Zo)
 all_goals(try simp only[BL]at *)
 try any_goals omega
 try any_goals((simp only[Z8,Z5,Z9,Z7,Z4,bz,aV,bU,Z2];omega))
 all_goals(refine Sx.Fin.intro Zs (bs ?_);simp[wY,eH, *];done)
theorem WE(x:Ex)(h:Kids x 80)(cO:∀ i,i<x.args.length→qQ (x.args.getD i default))(hx:qQ x)(hl:x.args.length=2)(ho:x.op.size≤8):Pure prog 131 [.agg x.row] (sv (uU x (tx x))):=by
 have hz:= @gd x _ h 0 (eP x) (by omega)
 have cj:= @gd x _ h 0 6 (by omega)
 have dt:= @gd x _ h 1 (IntKind.i64.wrap (eP x+1)) (by omega)
 have hr:=Ik x
 rw[Ex.bP x]
 refine aei.p fun σ=> ?_
 repeat'(first|exact .nil|refine .k0 ?_|refine .k1 ?_|refine .k2 ?_|refine .k5 ?_|refine .k7 ?_|refine .k9 ?_|(refine .cd ?_ ?_<;>(intro hc;skip))|refine .r1 ?_ ?_|(refine .m1 ?_ ?_;intro b)|refine .t1 ?_ ?_ ?_|refine .an rfl (by intro aq;first|exact xQ x h 0 (by omega) (cO 0 (by omega)) _|exact xQ x h 1 (by omega) (cO 1 (by omega)) _|(refine(PW x hx).wk ?_;(repeat' first|exact .row|exact .refl _|refine .cons ?_ ?_|refine .agg ?_|fail);done)|fail) ?_ ?_|fail)
 try any_goals(exact Zo)
 all_goals(try simp only[BL]at *)
 try any_goals omega
 try any_goals((simp only[Z8,Z5,Z9,Z7,Z4,bz,aV,bU,Z2];omega))
 all_goals(refine Sx.Fin.intro Zs (bs ?_);have hw:IntKind.i64.wrap (eP x+1)=eP x+1:=aM (by omega)
           rw[hw];unfold uU CM;simp only[hc,eH,YV,Za];done)
theorem ahm{x:Ex}(h:lQ x):x.param=0↔¬(x.op=⟨#[113,117,97,110,116,105,108,101]⟩∨x.op=⟨#[100,101,99,97,121]⟩):=by
 unfold lQ at h
 split at h
 ·rename_i e;constructor
  ·intro e2;omega
  ·intro e2;exact absurd (.inl e) e2
 ·split at h
  ·rename_i e;constructor
   ·intro e2;omega
   ·intro e2;exact absurd (.inr e) e2
  ·rename_i e1 e2
   exact⟨fun _ h=>h.elim e1 e2,fun _=>h⟩
theorem WT:(⟨#[99,111,117,110,116]⟩:ae)≠⟨#[113,117,97,110,116,105,108,101]⟩∧(⟨#[99,111,117,110,116]⟩:ae)≠⟨#[100,101,99,97,121]⟩:=by decide
theorem Wm(x:Ex)(h:Kids x 80)(hl:x.args.length=2)(ho:x.op.size≤8)(ht:x.table.size≤24)(hw:kj x.win)(hp:lQ x)(hf:form true (x.args.getD 1 default)=true):Pure prog 129 [.agg x.row] (sv (en x (tx x))):=by
 have hz:=h.z 0 (by omega)
 have cj:=h.z 1 (by omega)
 have hp2:=PA hp
 have jo:=Bt x.param.toNat (by omega)
 rw[show((x.param.toNat:Nat):Int)=x.param by omega]at jo
 have G4:(Lib.decDigits x.param.toNat).length≤21:=pH (by omega)
 have hz4:=Jm hw
 rw[Ex.bP x]
 refine aeg.p fun σ=> ?_
 repeat'(first|exact .nil|refine .k0 ?_|refine .k1 ?_|refine .k2 ?_|refine .k4 ?_|refine .k5 ?_|refine .k7 ?_|refine .k9 ?_|(refine .cd ?_ ?_<;>(intro hc;skip))|refine .r1 ?_ ?_|(refine .m1 ?_ ?_;intro b)|refine .t1 ?_ ?_ ?_|refine .an rfl (by intro aq;first|exact h.t 0 (by omega)|exact h.t 1 (by omega)|exact aMZ x.win hw|exact jo|exact Qp (x.args.getD 1 default) kV|exact Q8) ?_ ?_|fail)
 try any_goals(exact Zo)
 all_goals(try simp only[BL]at *)
 try any_goals omega
 try any_goals((simp only[Z8,Z5,Z9,Z7,Z4,bz,aV,bU,Z2];omega))
 all_goals(refine Sx.Fin.intro Zs (bs ?_);have hy:=ahm hp;have hcq:=WT;unfold en aY iA;repeat' split
           all_goals first|(exfalso;grind)|(simp only[eS,pz,eH];done))
theorem aMi(x:Ex):∀ ins,form ins x=true→x.size≤100→Pure prog 80 [.agg x.row] (sv (text x)):=by
 induction x using Ex.ind with
 |h x ih=>
 intro ins hf hs
 have h:=qK.of hf
 have hk:Kids x 80:=by
  constructor
  ·intro i hi
   have:=Ex.qq (bu hi)
   rw[Ap hi]
   exact ih _ (bu hi) _ (h.sub _ (bu hi)) (by omega)
  ·intro i hi
   have:=Ex.qq (bu hi)
   rw[Ap hi]
   exact ZJ (IX _ _ (h.sub _ (bu hi))) (by omega)
 have cO:∀ i,i<x.args.length→qQ (x.args.getD i default):=fun i hi=>Pn (h.sub _ (bu hi))
 have hx:=Pn hf
 obtain⟨p1,p2,p4,p5,p6,p7,p8,p9⟩:=parts h
 have hr:=On h.nb
 have MV:x.kind=7→x.op.size≤8:=fun e=>by
  obtain⟨hl,y,hy,ho⟩:=p7 e
  have e1:=EF y hy
  rwa [← ho]at e1
 have he:x.kind=5→x.op.size≤8∧x.table.size≤24∧kj x.win∧lQ x∧form true (x.args.getD 1 default)=true:=fun e=>by
  have hA:=(p5 e).1
  obtain⟨⟨y,hy,ho⟩,ht,hw,hp, -⟩:=hA
  have e1:=EA y hy
  rw[← ho]at e1
  have hl:=(p5 e).2
  have h1:=h.sub _ (bu (i:=1) (by omega))
  rw[e]at h1
  exact⟨e1,ht.1.2.1,hw,hp,by simpa using h1⟩
 have vQ:x.kind=4→x.name.size≤24:=fun e=>(p4 e).1.1.1.2.1
 have l4:=fun e=>(p4 e).2
 have l5:=fun e=>(p5 e).2
 have l6:=fun e=>(p6 e).1
 have l7:=fun e=>(p7 e).1
 have fX:=hk.z 0
 have cj:=hk.z 1
 have dt:=hk.z 2
 have FR:=fun e=> @gd x _ hk 0 1 e
 have yq:=fun e=> @gd x _ hk 1 2 e
 clear ih
 rw[Ex.bP x]
 refine k80.p fun σ=> ?_
 repeat'(first|exact .nil|refine .k0 ?_|refine .k1 ?_|refine .k2 ?_|refine .k5 ?_|refine .k6 ?_|refine .k7 ?_|refine .k9 ?_|(refine .cd ?_ ?_<;>(intro hc;skip))|refine .r1 ?_ ?_|(refine .m1 ?_ ?_;intro b)|refine .t1 ?_ ?_ ?_|refine .an rfl (by intro aq;first|(refine(agd x (p1 (by(simp only[BL]at *;omega))).1).wk ?_;(repeat' first|exact .row|exact .refl _|refine .cons ?_ ?_|refine .agg ?_|fail);done)|(refine(Wm x hk (p5 (by(simp only[BL]at *;omega))).2 (he (by(simp only[BL]at *;omega))).1 (he (by(simp only[BL]at *;omega))).2.1 (he (by(simp only[BL]at *;omega))).2.2.1 (he (by(simp only[BL]at *;omega))).2.2.2.1 (he (by(simp only[BL]at *;omega))).2.2.2.2).wk ?_;(repeat' first|exact .row|exact .refl _|refine .cons ?_ ?_|refine .agg ?_|fail);done)|(refine(aMr x hk cO (p6 (by(simp only[BL]at *;omega))).1).wk ?_;(repeat' first|exact .row|exact .refl _|refine .cons ?_ ?_|refine .agg ?_|fail);done)|(refine(WE x hk cO hx (p7 (by(simp only[BL]at *;omega))).1 (MV (by(simp only[BL]at *;omega)))).wk ?_;(repeat' first|exact .row|exact .refl _|refine .cons ?_ ?_|refine .agg ?_|fail);done)|exact hk.t 0 (by(simp only[BL]at *;omega))|exact hk.t 1 (by(simp only[BL]at *;omega))|exact hk.t 2 (by(simp only[BL]at *;omega))|exact xQ x hk 0 (by(simp only[BL]at *;omega)) (cO 0 (by(simp only[BL]at *;omega))) _|exact xQ x hk 1 (by(simp only[BL]at *;omega)) (cO 1 (by(simp only[BL]at *;omega))) _) ?_ ?_|fail)
 try any_goals(exact Zo)
 all_goals(try simp only[BL]at *)
 any_goals((simp only[Z8,Z5,Z9,Z7,Z4,bz,aV,bU,Z2];omega))
 all_goals(refine Sx.Fin.intro Zs (bs ?_);rw[IW,An];repeat' split
           all_goals clear fX cj dt FR yq vQ l4 l5 l6 l7 p1 p2 p4 p5 p6 p7 p8 p9 he MV hx cO hk h hf hs
           all_goals first|(exfalso;omega)|rfl|(simp only[zD,xZ,eH];done))
theorem IC{x:Ex}(h:shape x=0):form false x=true:=by
 unfold shape at h
 split at h
 ·omega
 ·split at h
  ·assumption
  ·omega
def oo(x:Ex):ae:=if shape x=0 then text x else⟨#[]⟩
def rW(t:Ty):ae:=if dO t=0 then lU t else⟨#[]⟩
theorem kA{a b:ae}{n m:Int}(h:a=b)(h2:n=m):AV.aE [.v (.string a),.v (.int .i64 n)]= .aE [sv b,iv m]:=by rw[h,h2]
theorem abm(x:Ex)(hs:x.size≤100):Pure prog 37 [.agg x.row] (.aE [sv (oo x),iv (shape x)]):=by
 rw[Ex.bP x]
 refine k37.p fun σ=> ?_
 repeat'(first|exact .nil|refine .k0 ?_|refine .k1 ?_|refine .k2 ?_|refine .k7 ?_|refine .k9 ?_|(refine .cd ?_ ?_<;>(intro hc;skip))|refine .r1 ?_ ?_|(refine .m1 ?_ ?_;intro b)|refine .an rfl (by intro aq;first|(refine(Ae x (by omega)).wk ?_;(repeat' first|exact .row|exact .refl _|refine .cons ?_ ?_|refine .agg ?_|fail);done)|(refine(agQ x false (IC (by(simp only[BL]at *;omega))) hs).wk ?_;(repeat' first|exact .row|exact .refl _|refine .cons ?_ ?_|refine .agg ?_|fail);done)|fail) ?_ ?_|fail)
 all_goals(try simp only[BL]at *)
 all_goals(refine Sx.Fin.intro Zs (kA ?_ ?_)<;>first|rfl|exact(Z6 hc).symm|exact(Z3 hc).symm|exact hc.symm)
theorem abl(x:Ex)(hs:x.size≤100):Pure prog 49 [.agg x.row] (.aE [sv (oo x),iv (shape x)]):=by
 rw[Ex.bP x]
 refine k49.p fun σ=> ?_
 repeat'(first|exact .nil|refine .k0 ?_|refine .k1 ?_|refine .k2 ?_|refine .k7 ?_|refine .k9 ?_|(refine .cd ?_ ?_<;>(intro hc;skip))|refine .r1 ?_ ?_|(refine .m1 ?_ ?_;intro b)|refine .an rfl (by intro aq;first|(refine(IB x (by omega)).wk ?_;(repeat' first|exact .row|exact .refl _|refine .cons ?_ ?_|refine .agg ?_|fail);done)|(refine(aMi x false (IC (by(simp only[BL]at *;omega))) hs).wk ?_;(repeat' first|exact .row|exact .refl _|refine .cons ?_ ?_|refine .agg ?_|fail);done)) ?_ ?_|fail)
 all_goals(try simp only[BL]at *)
 all_goals(refine Sx.Fin.intro Zs (kA ?_ ?_)<;>first|rfl|exact(Z6 hc).symm|exact(Z3 hc).symm|exact hc.symm)
theorem rV{t:Ty}(h:dO t=0):(∀ f∈t.unit,gb f)∧t.unit.length≤4∧t.of.size≤100:=by
 obtain⟨h1,h2,h3⟩:=DH h
 exact⟨h2,h1,by omega⟩
theorem aMq(t:Ty):Pure prog 36 [.agg t.cells] (.aE [sv (rW t),iv (dO t)]):=by
 refine k36.p fun σ=> ?_
 repeat'(first|exact .nil|refine .k0 ?_|refine .k1 ?_|refine .k2 ?_|refine .k7 ?_|refine .k9 ?_|(refine .cd ?_ ?_<;>(intro hc;skip))|refine .r1 ?_ ?_|(refine .m1 ?_ ?_;intro b)|refine .an rfl (by intro aq;first|exact uo t|exact Om t (rV (by(simp only[BL]at *;omega))).1 (rV (by(simp only[BL]at *;omega))).2.1 (rV (by(simp only[BL]at *;omega))).2.2|fail) ?_ ?_|fail)
 all_goals(try simp only[BL]at *)
 all_goals(refine Sx.Fin.intro Zs (kA ?_ ?_)<;>first|rfl|exact(Z6 hc).symm|exact(Z3 hc).symm|exact hc.symm)
theorem aMp(t:Ty):Pure prog 48 [.agg t.cells] (.aE [sv (rW t),iv (dO t)]):=by
 refine k48.p fun σ=> ?_
 repeat'(first|exact .nil|refine .k0 ?_|refine .k1 ?_|refine .k2 ?_|refine .k7 ?_|refine .k9 ?_|(refine .cd ?_ ?_<;>(intro hc;skip))|refine .r1 ?_ ?_|(refine .m1 ?_ ?_;intro b)|refine .an rfl (by intro aq;first|exact wX t|exact Ol t (rV (by(simp only[BL]at *;omega))).1 (rV (by(simp only[BL]at *;omega))).2.1 (rV (by(simp only[BL]at *;omega))).2.2) ?_ ?_|fail)
 all_goals(try simp only[BL]at *)
 all_goals(refine Sx.Fin.intro Zs (kA ?_ ?_)<;>first|rfl|exact(Z6 hc).symm|exact(Z3 hc).symm|exact hc.symm)
end Go.Proofs.YtomhopcnkicknaaGreatDoor
namespace Go.Sx
structure At(P:Program)[Glob P](f:FuncId)(xs:List AV)(r:AV)(σ:Store):Prop where
 sp:Spec P f xs σ fun r' af=>r'= .ret r∧af=σ
theorem At.wk{P:Program}[Glob P]{f:FuncId}{xs bs:List AV}{r:AV}{σ:Store}(h:At P f bs r σ)(hw:cD xs bs):At P f xs r σ:=
 ⟨fun M w0 w cs hI hR=>h.sp M w0 w cs hI (hw.sound hR)⟩
theorem KF{P:Program}[Glob P]{f:FuncId}{xs:List AV}{σ:Store}{K:AV→Store→Prop}{E:List PanicEntry→Store→Prop}{r:AV}(h:At P f xs r σ)(k:K r σ):qH P f xs σ K E:=
 ⟨_,h.sp,fun _ _ ⟨e,e'⟩=>by cases e;subst e';exact k,fun _ _ ⟨e,_⟩=>by cases e⟩
theorem At.nO{P:Program}[Glob P][ku P]{f:FuncId}{fn:Func}{fc:FC}{xs:List AV}{r:AV}{σ:Store}{a:AC}(cfg:Nat→Nat)(hf:P.funcs[f]? =some fn)(hc:iN P fn=some fc)(ha:fc.code=a.erase)(hlen:xs.length≤fc.N)
  (h:WK P fc.N cfg (mF fc.res r σ) a [] (kv 0 xs) σ):At P f xs r σ:=by
 have h1:=h.h.h
 rw[← ha]at h1
 refine⟨?_⟩
 have:=Spec.intro (Q:=fun r' af=>∃ x,r'= .ret x∧Wk x r∧Sub σ af) hf hc hlen (h1.mono (fun e rg af hq=>by
  cases e with
  |normal=>obtain⟨x,h1,h2,h3⟩:=hq;exact⟨x,h1,x,rfl,h2,h3⟩
  |ret=>obtain⟨x,h1,h2,h3⟩:=hq;exact⟨x,h1,x,rfl,h2,h3⟩
  |_=>exact hq.elim))
 refine this.weak ?_
 rintro r' af ⟨x,rfl,h2,h3⟩
 exact⟨.ret r,σ,⟨rfl,rfl⟩,h3,h2⟩
section
variable {P:Program}[Glob P]{cfg:Nat→Nat}{K:ah→Store→Prop}{E:List PanicEntry→Store→Prop}{σ:Store}{l:List CI}{d:Nat}{v:AV}{xr:XR}{ps:List Prop}{g:Option (Nat×Bool)}{og:Option Bool}{xs:List AV}{args:List Operand}
theorem A2{f:FuncId}{r:AV}(h:aL xr g args=some (og,xs,ps))(hp:og.getD true=true→At P f xs r σ)(aw:OB ps)(k:VX P cfg l K E (bM og d r xr) σ):VX P cfg (⟨some d,.call f args,g⟩::l) K E xr σ:=by
 obtain⟨hc,he⟩:=cE h
 refine jh hc (fun hg=> ?_) (fun hg=> ?_)
 ·simp only[ak,he aw hg]
  refine KF (hp hg) ?_
  rw[← fu hg];exact k.h
 ·rw[← ft hg (v:=r)];exact k.h
theorem J7{f:FuncId}{r fv:AV}{fo:Operand}{a c:Array Value}(h:aL xr g (fo::args)=some (og,fv::xs,ps))(hf:yb fv=some (f,a,c))(dJ:jI P f=true)(hp:og.getD true=true→At P f (a.toList.map .v++xs++c.toList.map .v) r σ)(aw:OB ps)(k:VX P cfg l K E (bM og d r xr) σ):
  VX P cfg (⟨some d,.gz fo args,g⟩::l) K E xr σ:=by
 obtain⟨hc,he⟩:=cE h
 refine jh hc (fun hg=> ?_) (fun hg=> ?_)
 ·have:=he aw hg
  simp only[bD,ZS]at this
  simp only[ak,this.1,this.2,Fi hf]
  refine⟨dJ,KF (hp hg) ?_⟩
  rw[← fu hg];exact k.h
 ·rw[← ft hg (v:=r)];exact k.h
end
theorem Wk.ptr(t b o:Nat):Wk (.v (.pointer (some ⟨b,o,none⟩))) (.lp t b o):=fun M x h=>by
 obtain rfl:=h.aC
 exact .lp t b o
end Go.Sx
namespace Go.Proofs.YtomhopcnkicknaaGreatDoor
open _root_.Go.Proofs.Tryz
open Go.Sx Go.Proofs
theorem aLq(x f:bZ)(b:Nat)(τ:Store):At prog 60 [.agg x.cells,.lp 4 b 0] (.v (.bool (decide (x.name=f.name)))) ((4,b,aG.cells f.cells)::τ):=by
 refine At.nO (fun _=>0) func60 Xi aa4 (ZW rfl) ?_
 repeat'(first|exact .nil|refine .k0 ?_|refine .k1 ?_|refine .k2 ?_|refine .k7 ?_|refine .r1 ?_ ?_|(refine .m1 ?_ ?_;intro b)|fail)
 all_goals(try simp only[BL]at *)
 ·exact Sx.Fin.intro Zs rfl
theorem adv(fs:List bZ)(f:bZ)(b:Nat)(τ:Store):At prog 89 [.sl false 4 (fs.map bZ.cells),.v (.func (.func 60) #[] #[.pointer (some ⟨b,0,none⟩)])] (iv (firstIdx (fun x=>decide (x.name=f.name)) fs 0)) ((4,b,aG.cells f.cells)::τ):=by
 refine At.nO (fun _=>0) func89 Xk aa6 (ZW rfl) ?_
 repeat'(first|exact .nil|refine .k0 ?_|refine .k1 ?_|refine .k2 ?_|refine .k6 ?_|refine .r1 ?_ ?_|(refine .m2 ?_ ?_;intro hlen)|fail)
 all_goals(try simp only[BL]at *)
 refine aH (fun n rg af=>∃ i:Nat,i≤fs.length∧n=fs.length-i∧(∀ j,j<i→¬(fs.getD j default).name=f.name)∧af=(4,b,aG.cells f.cells)::τ∧rg=[(0,.sl false 4 (fs.map bZ.cells)),(1,.v (.func (.func 60) #[] #[.pointer (some ⟨b,0,none⟩)])),(7,iv fs.length),(8,iv i)]) fs.length rfl ⟨_,_,Zr,Zs,0,Z1 _,rfl,fun j hj=>absurd hj (by omega),rfl,rfl⟩ ?_
 rintro n _ _ ⟨i,hi,hn,hp,rfl,rfl⟩
 repeat'(first|exact .nil|refine .k0 ?_|refine .k1 ?_|refine .k2 ?_|refine .k6 ?_|refine .k7 ?_|refine .k8 ?_|refine .k9 ?_|(refine .cd ?_ ?_<;>(intro hc;skip))|refine .r1 ?_ ?_|refine .t1 ?_ ?_ ?_|fail)
 try any_goals(exact Zo)
 all_goals(try simp only[BL]at *)
 refine J7 rfl rfl (by rfl) (fun _=>(aLq (fs.getD i default) f b τ).wk (cD.cons (Wk.refl _) (cD.cons (Wk.ptr _ _ _) cD.nil))) OB.nil ?_
 repeat'(first|exact .nil|refine .k0 ?_|refine .k1 ?_|refine .k2 ?_|refine .k7 ?_|refine .k9 ?_|(refine .cd ?_ ?_<;>(intro hc;skip))|refine .r1 ?_ ?_|fail)
 all_goals(try simp only[BL]at *)
 ·rw[q7 (p:=fun x:bZ=>decide (x.name=f.name)) (l:=fs) (k:=0) (i:=i) (fun j hj=>ZA (hp j hj)) (by omega) (Zd hc),Zl]
  exact Zw
 ·refine⟨fs.length-(i+1),by omega,_,_,Zr,Zs,i+1,by omega,rfl,dp hp hc,rfl,by rw[aO (by omega) hlen]⟩
 ·rw[q8 (fun y hy=>ZA (nQ (p:=fun y:bZ=>¬y.name=f.name) (fun j hj=>hp j (by omega)) y hy))]
  exact Zw
theorem Xn(fs:List bZ)(f:bZ)(b:Nat)(τ:Store):At prog 59 [.sl false 4 (fs.map bZ.cells),.v (.func (.func 60) #[] #[.pointer (some ⟨b,0,none⟩)])] (.v (.bool (decide (∃ x∈fs,x.name=f.name)))) ((4,b,aG.cells f.cells)::τ):=by
 refine At.nO (fun _=>0) func59 Xh aa3 (ZW rfl) ?_
 repeat'(first|exact .nil|refine .k0 ?_|refine .k1 ?_|refine .k2 ?_|refine .r1 ?_ ?_|fail)
 all_goals(try simp only[BL]at *)
 refine A2 rfl (fun _=>adv fs f b τ) OB.nil ?_
 repeat'(first|exact .nil|refine .k0 ?_|refine .k1 ?_|refine .k7 ?_|refine .r1 ?_ ?_|fail)
 all_goals(try simp only[BL]at *)
 ·refine Sx.Fin.intro Zs (bd ?_)
  rw[Zn,BH]
  simp only[Zn]
def kH(prev:List bZ)(f:bZ):Int:=if¬Name f.name then 3 else if∃ x∈prev,x.name=f.name then 121 else dO f.type
def ig:List bZ→List bZ→Int
 |_,[]=>0
 |prev,f::l=>if kH prev f=0 then ig (prev++[f]) l else kH prev f
def dN(t:aP):Int:=
 if¬(Name t.name∧Name t.cv∧0≤t.bY∧t.bY≤1099511627776)then 3 else if t.fields.length>8 then 2 else ig [] t.fields
theorem Fg{u:List bZ}{i:Nat}(hi:i<u.length)(h:kH (u.take i) (u.getD i default)=0):ig (u.take i) (u.drop i)=ig (u.take (i+1)) (u.drop (i+1)):=by
 rw[sV hi,ig,Z3 h,qv hi]
theorem pL{u:List bZ}{i:Nat}{e:Int}(hi:i<u.length)(h:kH (u.take i) (u.getD i default)=e)(he:e≠0):ig (u.take i) (u.drop i)=e:=by
 rw[sV hi,ig,Z6 (by rw[h];exact he),h]
theorem QX(t:aP):Pure prog 28 [.agg t.cells] (iv (dN t)):=by
 refine k28.p fun σ=> ?_
 repeat'(first|exact .nil|refine .k0 ?_|refine .k1 ?_|refine .k2 ?_|refine .k4 ?_|refine .k6 ?_|refine .k7 ?_|refine .k9 ?_|(refine .cd ?_ ?_<;>(intro hc;skip))|refine .r1 ?_ ?_|(refine .m1 ?_ ?_;intro b)|(refine .m2 ?_ ?_;intro hlen)|refine .an rfl (by intro aq;first|exact oW _|fail) ?_ ?_|fail)
 try any_goals(exact Zo)
 all_goals(try simp only[BL]at *)
 ·refine Sx.Fin.intro Zs (bi ?_)
  unfold dN;rw[Z3 (by grind)]
 ·refine Sx.Fin.intro Zs (bi ?_)
  unfold dN;rw[Z6 (by grind),Z3 (by omega)]
 rename_i h1 h2
 have hu:dN t=ig [] t.fields:=by unfold dN;rw[Z6 (by grind),Z6 (by omega)]
 refine aH (fun n rg af=>∃ (i:Nat),i≤t.fields.length∧n=t.fields.length-i∧dN t=ig (t.fields.take i) (t.fields.drop i)∧af=(1,b,aG.cells t.cells)::σ∧rg=[(1,.lp 1 b 0),(31,.sl false 4 (t.fields.map bZ.cells)),(32,iv t.fields.length),(33,iv i)]) t.fields.length rfl ⟨_,_,Zr,Zs,0,Z1 _,rfl,hu,rfl,rfl⟩ ?_
 rintro n _ _ ⟨i,hi,hn,hp,rfl,rfl⟩
 repeat'(first|exact .nil|refine .k0 ?_|refine .k1 ?_|refine .k2 ?_|refine .k6 ?_|refine .k7 ?_|refine .k8 ?_|refine .k9 ?_|(refine .cd ?_ ?_<;>(intro hc;skip))|refine .r1 ?_ ?_|(refine .l1 ?_;intro b)|refine .t1 ?_ ?_ ?_|refine .t2 ?_ ?_ ?_|refine .an rfl (by intro aq;first|exact oW _|fail) ?_ ?_|fail)
 try any_goals(exact Zo)
 all_goals(try simp only[BL]at *)
 ·rw[hp,pL (e:=3) (by omega) (Z3 hc) (by decide)]
  exact Zw
 refine A2 rfl (fun _=>Xn (t.fields.take i) (t.fields.getD i default) _ _) OB.nil ?_
 repeat'(first|exact .nil|refine .k0 ?_|refine .k1 ?_|refine .k2 ?_|refine .k7 ?_|refine .k9 ?_|(refine .cd ?_ ?_<;>(intro hc;skip))|refine .r1 ?_ ?_|refine .an rfl (by intro aq;exact uo (t.fields.getD i default).type) ?_ ?_|fail)
 all_goals(try simp only[BL]at *)
 ·rw[hp,pL (e:=121) (by omega) (by unfold kH;rw[Z6 (fun h=>h ‹_›),Z3 hc]) (by decide)]
  exact Zw
 ·rw[hp,pL (by omega) (by unfold kH;rw[Z6 (fun h=>h ‹_›),Z6 ‹_›]) hc]
  exact Zw
 ·refine⟨t.fields.length-(i+1),by omega,_,_,Zr,Zs,i+1,by omega,rfl,?_,rfl,by rw[aO (n:=t.fields.length) (by omega) (by assumption)]⟩
  rw[hp,Fg (by omega) (by unfold kH;rw[Z6 (fun h=>h ‹_›),Z6 ‹_›];exact hc)]
 ·rw[hp,YQ (by omega),ig]
  exact Zw
def gh(f:bZ):ae:=⟨#[32]⟩++(f.name++(⟨#[58,32]⟩++lU f.type))
def qu(t:aP):ae:=⟨#[116,97,98,108,101,32]⟩++(t.name++(⟨#[32,111,102,32]⟩++(t.cv++(⟨#[32,123]⟩++(kR (t.fields.map gh) ⟨#[44]⟩++(⟨#[32,125]⟩++((if t.bY=0 then⟨#[]⟩else⟨#[32,107,101,101,112,32]⟩++iA t.bY)++⟨#[59]⟩)))))))
theorem L1:∀ (l p:List bZ),ig p l=0→∀ f∈l,Name f.name∧dO f.type=0
 |[],_,_,f,hf=>absurd hf (by simp)
 |g::l,p,h,f,hf=>by
  rw[ig]at h
  split at h
  ·rename_i h0
   rcases ZQ.1 hf with rfl|hf
   ·unfold kH at h0
    split at h0
    ·omega
    ·rename_i hn
     split at h0
     ·omega
     ·exact⟨Y1.1 hn,h0⟩
   ·exact L1 l _ h f hf
  ·rename_i h0;exact absurd h h0
structure oc(t:aP):Prop where
 n:t.name.size≤24
 e:t.cv.size≤24
 k:0≤t.bY∧t.bY≤1099511627776
 l:t.fields.length≤8
 f:∀ f∈t.fields,Name f.name∧dO f.type=0
theorem oc.of{t:aP}(h:dN t=0):oc t:=by
 unfold dN at h
 split at h
 ·omega
 ·rename_i h1
  have h1:=Y1.1 h1
  split at h
  ·omega
  ·exact⟨h1.1.1.2.1,h1.2.1.1.2.1,h1.2.2,by omega,L1 _ _ h⟩
theorem DI{t:Ty}(h:dO t=0):(lU t).size≤220:=by
 obtain⟨hu,hl,ho⟩:=rV h
 have:=xb hu hl
 unfold lU
 repeat' split
 all_goals first|decide|((simp only[Z8,Z5,Z9,Z7,Z4,bz,aV,bU,Z2];omega))
theorem L4{f:bZ}(h:Name f.name∧dO f.type=0):(gh f).size≤250:=by
 have h1:=DI h.2
 have h2:=h.1.1.2.1
 unfold gh
 ((simp only[Z8,Z5,Z9,Z7,Z4,bz,aV,bU,Z2];omega))
theorem QU{t:aP}(h:oc t):(Lib.join ((t.fields.map gh).map (·.data.toList)) (⟨#[44]⟩:ae).data.toList).length≤3000:=by
 have h1:=Hg (t.fields.map gh) ⟨#[44]⟩
 have h2:=CN gh 250 fun f hf=>L4 (h.f f hf)
 have h3:(⟨#[44]⟩:ae).size=1:=rfl
 rw[Z7,h3]at h1
 have:=h.l
 omega
theorem QW{t:aP}(h:oc t):(kR (t.fields.map gh) ⟨#[44]⟩).size≤3000:=QU h
theorem QT{t:aP}{i:Nat}(hT:oc t)(h:i<t.fields.length):(∀ f∈(t.fields.getD i default).type.unit,gb f)∧(t.fields.getD i default).type.unit.length≤4∧(t.fields.getD i default).type.of.size≤100∧(t.fields.getD i default).name.size≤24∧(lU (t.fields.getD i default).type).size≤220:=by
 have h1:=hT.f _ (bu h)
 obtain⟨hu,hl,ho⟩:=rV h1.2
 exact⟨hu,hl,ho,h1.1.1.2.1,DI h1.2⟩
theorem acf(f:bZ):dT [⟨#[32]⟩,f.name,⟨#[58,32]⟩,lU f.type]=gh f:=by simp only[dT,gh,eS]
theorem ahT{fs:List bZ}{i:Nat}(h:i<fs.length):((fs.take i).map gh).map cq++[[.v (.string (gh (fs.getD i default)))]]=((fs.take (i+1)).map gh).map cq:=by
 rw[qv h];simp[cq]
theorem aL8(t:aP):Pure prog 10 [.agg t.cells] (.aE [sv (if dN t=0 then qu t else⟨#[]⟩),iv (dN t)]):=by
 refine Hh.p fun σ=> ?_
 repeat'(first|exact .nil|refine .k0 ?_|refine .k1 ?_|refine .k2 ?_|refine .k6 ?_|refine .k7 ?_|refine .k9 ?_|(refine .cd ?_ ?_<;>(intro hc;skip))|refine .r1 ?_ ?_|(refine .m1 ?_ ?_;intro b)|(refine .m2 ?_ ?_;intro hlen)|refine .an rfl (by intro aq;first|exact QX t|fail) ?_ ?_|fail)
 all_goals(try simp only[BL]at *)
 ·refine Sx.Fin.intro Zs (kA ?_ rfl)
  exact(Z6 hc).symm
 have hT:=oc.of hc
 have hTn:=hT.n
 have hTe:=hT.e
 have FP:=hT.k
 have hTl:=hT.l
 have hTz:=QW hT
 have hj:(kR [] (⟨#[44]⟩:ae)).size=0:=rfl
 have hTq:=vY t.bY (by omega)
 rw[Z3 hc,hc]
 refine aH (fun n rg af=>∃ i:Nat,i≤t.fields.length∧n=t.fields.length-i∧((i=0∧af=(1,b,aG.cells t.cells)::σ∧rg=[(1,.lp 1 b 0),(5,.v (.slice none 0 0)),(14,.sl false 4 (t.fields.map bZ.cells)),(15,iv t.fields.length),(16,iv i)])∨(0<i∧∃ b' v c,af=(29,b',.tail v c)::(1,b,aG.cells t.cells)::σ∧rg=[(1,.lp 1 b 0),(5,.own 1 29 b' v c (((t.fields.take i).map gh).map cq)),(14,.sl false 4 (t.fields.map bZ.cells)),(15,iv t.fields.length),(16,iv i)]))) t.fields.length rfl ⟨_,_,Zr,Zs,0,Z1 _,rfl,.inl ⟨rfl,rfl,rfl⟩⟩ ?_
 rintro n _ _ ⟨i,hi,hn,⟨h0,rfl,rfl⟩|⟨h0,b0,v0,c0,rfl,rfl⟩⟩
 all_goals have hf:=fun h=>QT (i:=i) hT h
 all_goals have cj:=fun h=>(hf h).2.2.2.1
 all_goals have dt:=fun h=>(hf h).2.2.2.2
 repeat'(first|exact .nil|refine .k0 ?_|refine .k1 ?_|refine .k2 ?_|refine .k4 ?_|refine .k5 ?_|refine .k6 ?_|refine .k7 ?_|refine .k8 ?_|refine .k9 ?_|(refine .cd ?_ ?_<;>(intro hc;skip))|refine .r1 ?_ ?_|(refine .l1 ?_;intro b)|refine .t1 ?_ ?_ ?_|refine .u1 ?_ ?_ ?_ (fun b u c=> ?_)|refine .u2 ?_ ?_ ?_ (fun b u c=> ?_)|refine .an rfl (by intro aq;first|exact tQ _ (by first|omega|fail)|exact Om (t.fields.getD i default).type (hf (by(simp only[BL]at *;omega))).1 (hf (by(simp only[BL]at *;omega))).2.1 (hf (by(simp only[BL]at *;omega))).2.2.1|exact lM _ rfl (ZW rfl) (by simp only[fY,aV,Z2,Z8,Z5,mj];first|omega|(simp only[BL]at *;omega))|(refine(zJ [] ⟨#[44]⟩ false (by decide) (by decide)).wk ?_;(repeat' first|exact .refl _|exact .nil|refine .cons ?_ ?_|fail);done)|(refine(zJ (t.fields.map gh) ⟨#[44]⟩ false (by rw[Z7];omega) (ZJ (QU hT) (by decide))).wk (cD.cons (Wk.C9 (by rw[ZU (by(simp only[BL]at *;omega))])) (cD.cons (Wk.refl _) cD.nil)))) ?_ ?_|(show List.all _ _=true;rfl)|fail)
 try any_goals(exact Zo)
 all_goals(try simp only[BL]at *)
 any_goals((simp only[Z8,Z5,Z9,Z7,Z4,bz,aV,bU,Z2];omega))
 all_goals have e:=fun h=>ahT (fs:=t.fields) (i:=i) h
 all_goals try simp only[acf]
 ·subst h0
  refine⟨t.fields.length-(0+1),by omega,_,_,Zr,Zs,0+1,by omega,rfl,.inr ⟨by omega,_,_,_,rfl,?_⟩⟩
  rw[← e (by omega),aO (n:=t.fields.length) (by omega) (by assumption)];rfl
 ·have Fy:t.fields=[]:=ZM (by omega)
  refine Sx.Fin.intro Zs (kA ?_ rfl)
  unfold qu
  rw[Z6 hc,Fy]
  simp only[dT,eS,pz,eH,zI FP.1,Y5]
 ·have Fy:t.fields=[]:=ZM (by omega)
  refine Sx.Fin.intro Zs (kA ?_ rfl)
  unfold qu
  rw[Z3 hc,Fy]
  simp only[dT,eS,pz,eH,Y5]
 ·refine⟨t.fields.length-(i+1),by omega,_,_,Zr,Zs,i+1,by omega,rfl,.inr ⟨by omega,_,_,_,rfl,?_⟩⟩
  rw[← e (by omega),aO (n:=t.fields.length) (by omega) (by assumption)]
 ·refine Sx.Fin.intro Zs (kA ?_ rfl)
  unfold qu
  rw[Z6 hc]
  simp only[dT,eS,pz,eH,zI FP.1]
 ·refine Sx.Fin.intro Zs (kA ?_ rfl)
  unfold qu
  rw[Z3 hc]
  simp only[dT,eS,pz,eH]
end Go.Proofs.YtomhopcnkicknaaGreatDoor
namespace Go.Sx
theorem cD.get{xs ys:List AV}(h:cD xs ys):xs.length=ys.length∧∀ j (h1:j<xs.length) (h2:j<ys.length),Wk xs[j] ys[j]:=by
 induction h with
 |nil=>exact⟨rfl,fun j h1=>absurd h1 (by simp)⟩
 |cons h t ih=>
  refine⟨by simp[ih.1],fun j h1 h2=> ?_⟩
  cases j with
  |zero=>exact h
  |succ j=>exact ih.2 j (by simpa using h1) (by simpa using h2)
inductive jG:List (List AV)→List (List AV)→Prop
 |nil:jG [] []
 |cons {x y:List AV} {xs ys:List (List AV)} (h:cD x y) (t:jG xs ys):jG (x::xs) (y::ys)
theorem jG.get{xs ys:List (List AV)}(h:jG xs ys):xs.length=ys.length∧∀ j (h1:j<xs.length) (h2:j<ys.length),cD xs[j] ys[j]:=by
 induction h with
 |nil=>exact⟨rfl,fun j h1=>absurd h1 (by simp)⟩
 |cons h t ih=>
  refine⟨by simp[ih.1],fun j h1 h2=> ?_⟩
  cases j with
  |zero=>exact h
  |succ j=>exact ih.2 j (by simpa using h1) (by simpa using h2)
theorem Wk.rows{nn:Bool}{n:Nat}{rows rows':List (List AV)}(h:jG rows rows'):Wk (.sl nn n rows) (.sl false n rows'):=fun M v hv=>by
 obtain⟨hl,hg⟩:=h.get
 cases hv with
 |nil _ _ a ha=>
  obtain rfl:rows'=[]:=ZM hl.symm
  exact .nil _ _ a (fun h=>nomatch h)
 |sl _ _ _ b off cap cs bC hM hR hc hm=>
  rw[hl]
  refine .sl _ _ _ b off cap cs (fun i hi=> ?_) (fun k hk=>hM k (by rw[hl];exact hk)) (fun i hi j hj=> ?_) (by omega) hm
  ·have:=(hg i (by omega) hi).get.1
   rw[← this];exact bC i (by omega)
  ·have tA:=(hg i (by omega) hi).get
   have:=hR i (by omega) j (by rw[tA.1];exact hj)
   exact tA.2 j (by rw[tA.1];exact hj) hj M _ this
end Go.Sx
namespace Go.Proofs.YtomhopcnkicknaaGreatDoor
open _root_.Go.Proofs.Tryz
open Go.Sx Go.Proofs
def mo(f:aj):Int:=if¬Name f.name∨¬Name f.cv then 3 else if dO f.type≠0 then dO f.type else shape f.body
def vo(f:aj):ae:=⟨#[102,101,97,116,117,114,101,32]⟩++(f.name++(⟨#[32,111,102,32]⟩++(f.cv++(⟨#[58,32]⟩++(lU f.type++(⟨#[32,61,32]⟩++(text f.body++⟨#[59]⟩)))))))
def kG(f:aj):ae:=if mo f=0 then vo f else⟨#[]⟩
theorem BC{f:aj}(h:¬Name f.name∨¬Name f.cv):mo f=3:=Z3 h
theorem LI{f:aj}(h:¬(¬Name f.name∨¬Name f.cv))(h2:dO f.type≠0):mo f=dO f.type:=(Z6 h).trans (Z3 h2)
theorem BD{f:aj}(h:¬(¬Name f.name∨¬Name f.cv))(h2:dO f.type=0):mo f=shape f.body:=(Z6 h).trans (Z6 (XK h2))
theorem vm{f:aj}(h:mo f≠0):kG f=⟨#[]⟩:=Z6 h
theorem Q5{x:Ex}(h:shape x=0)(hs:x.size≤100):(text x).size≤50000:=by have:=IX x false (IC h);omega
theorem Name.size{s:ae}(h:Name s):s.size≤24:=h.1.2.1
theorem aj.lj(f:aj):f.cells=[sv f.name,sv f.cv,iv f.type.kind,.sl false 2 (f.type.unit.map ar.cells),sv f.type.of,iv f.body.kind,sv f.body.op,sv f.body.name,sv f.body.table,iv f.body.val.kind,iv f.body.val.n,sv f.body.val.s,.sl false 2 (f.body.unit.map ar.cells),iv f.body.param,iv f.body.win.kind,iv f.body.win.size,.sl false 12 (f.body.args.map Ex.row),iv f.version]:=by rw[← Ex.lj];rfl
theorem abn(x:Ex)(hs:x.size≤100):Pure prog 37 [.agg x.lay] (.aE [sv (oo x),iv (shape x)]):=by have:=abm x hs;rwa [Ex.bP x]at this
theorem Rc(t:Ty):(rW t).size≤220:=by
 unfold rW;split
 ·rename_i h;exact DI h
 ·decide
theorem Lx(x:Ex)(hs:x.size≤100):(oo x).size≤50000:=by
 unfold oo;split
 ·rename_i h;exact Q5 h hs
 ·decide
theorem abx{f:aj}(h1:dO f.type=0)(h2:shape f.body=0):dT [⟨#[102,101,97,116,117,114,101,32]⟩,f.name,⟨#[32,111,102,32]⟩,f.cv,⟨#[58,32]⟩,rW f.type,⟨#[32,61,32]⟩,oo f.body,⟨#[59]⟩]=vo f:=by
 simp only[dT,vo,rW,oo,Z3 h1,Z3 h2,eS]
theorem abK(f:aj)(hs:f.body.size≤100):Pure prog 12 [.agg f.cells] (.aE [sv (kG f),iv (mo f)]):=by
 rw[aj.lj]
 refine k12.p fun σ=> ?_
 repeat'(first|exact .nil|refine .k0 ?_|refine .k1 ?_|refine .k2 ?_|refine .k4 ?_|refine .k7 ?_|refine .k9 ?_|(refine .cd ?_ ?_<;>(intro hc;skip))|refine .r1 ?_ ?_|(refine .m1 ?_ ?_;intro b)|refine .an rfl (by intro aq;first|exact oW _|exact aMq f.type|exact abn f.body hs|exact lM _ rfl (ZW rfl) (by have h1:=Rc f.type;have h2:=Lx f.body hs;have h3:Name f.name∧Name f.cv:=(by grind);have h4:=Name.size h3.1;have h5:=Name.size h3.2;simp only[fY,aV,Z2,Z8,Z5,mj];omega)) ?_ ?_|fail)
 try any_goals(exact Zo)
 all_goals(try simp only[BL]at *)
 any_goals exact ZW rfl
 ·rw[BC hc,vm (by rw[BC hc];decide)]
  exact Zw
 ·have h:=LI (f:=f) (by grind) hc
  rw[h,vm (by rw[h];exact hc)]
  exact Zw
 ·have h:=BD (f:=f) (by grind) (by assumption)
  rw[h,vm (by rw[h];exact hc)]
  exact Zw
 ·have h:=BD (f:=f) (by grind) (by assumption)
  refine Sx.Fin.intro Zs (kA ?_ ?_)
  ·rw[abx (by assumption) hc];exact(Z3 (h.trans hc)).symm
  ·rw[h,hc]
def JO(t:aP):Prop:=(∀ f∈t.fields,f.name.size≤100∧Ed f.type)∧t.fields.length≤12∧t.name.size+t.cv.size≤200
instance (t:aP):Decidable (JO t):=inferInstanceAs (Decidable (_∧_∧_))
structure aP.Fits(t:aP):Prop where
 n:t.name.size≤2 ^ 59
 e:t.cv.size≤2 ^ 59
 f:∀ f∈t.fields,f.type.of.size≤2 ^ 59
structure aj.Fits(f:aj):Prop where
 n:f.name.size≤2 ^ 59
 e:f.cv.size≤2 ^ 59
 t:f.type.of.size≤2 ^ 59
 b:f.body.wt≤2 ^ 60
def JN(f:aj):Prop:=f.name.size+f.cv.size≤200∧Ed f.type∧0≤LM f.body 80
instance (f:aj):Decidable (JN f):=inferInstanceAs (Decidable (_∧_∧_))
def rU(t:aP):ae:=if dN t=0 then qu t else⟨#[]⟩
theorem aL9(t:aP):Pure prog 10 [.agg t.cells] (.aE [sv (rU t),iv (dN t)]):=aL8 t
def aj.lay(f:aj):List AV:=[sv f.name,sv f.cv,iv f.type.kind,.sl false 2 (f.type.unit.map ar.cells),sv f.type.of,iv f.body.kind,sv f.body.op,sv f.body.name,sv f.body.table,iv f.body.val.kind,iv f.body.val.n,sv f.body.val.s,.sl false 2 (f.body.unit.map ar.cells),iv f.body.param,iv f.body.win.kind,iv f.body.win.size,.sl false 12 (f.body.args.map Ex.row),iv f.version]
theorem aby{f:aj}(h1:dO f.type=0)(h2:shape f.body=0):⟨#[102,101,97,116,117,114,101,32]⟩++f.name++⟨#[32,111,102,32]⟩++f.cv++⟨#[58,32]⟩++rW f.type++⟨#[32,61,32]⟩++oo f.body++⟨#[59]⟩=vo f:=by
 simp only[vo,rW,oo,Z3 h1,Z3 h2,eH]
theorem CU{α:Type}[Inhabited α]{l:List α}{k i:Nat}(h:k<i)(hi:i≤l.length):l.getD k default∈l.take i:=by
 have hk:k<l.length:=by omega
 rw[getD_eq hk]
 exact Yc.2 ⟨k,by omega,rfl⟩
theorem Am{α:Type}[Inhabited α]{p:α→Prop}{l:List α}{i:Nat}(hi:i≤l.length)(h:∀ j,j<i→¬p (l.getD j default)):¬∃ x∈l.take i,p x:=by
 rintro⟨x,hx,hp⟩
 obtain⟨k,hk,rfl⟩:=Yc.1 hx
 exact h k (by omega) (by rw[getD_eq (by omega)];exact hp)
theorem IM(t:aP):Pure prog 44 [.agg t.cells] (iv (dN t)):=by
 refine Oa.p fun σ=> ?_
 repeat'(first|exact .nil|refine .k0 ?_|refine .k1 ?_|refine .k2 ?_|refine .k4 ?_|refine .k6 ?_|refine .k7 ?_|refine .k9 ?_|(refine .cd ?_ ?_<;>(intro hc;skip))|refine .r1 ?_ ?_|(refine .m1 ?_ ?_;intro b)|(refine .m2 ?_ ?_;intro hlen)|refine .an rfl (by intro aq;first|exact nH _|fail) ?_ ?_|fail)
 try any_goals(exact Zo)
 all_goals(try simp only[BL]at *)
 ·refine Sx.Fin.intro Zs (bi ?_)
  unfold dN;rw[Z3 (by grind)]
 ·refine Sx.Fin.intro Zs (bi ?_)
  unfold dN;rw[Z6 (by grind),Z3 (by omega)]
 have hu:dN t=ig [] t.fields:=by unfold dN;rw[Z6 (by grind),Z6 (by omega)]
 refine aH (fun n rg af=>∃ (i:Nat),i≤t.fields.length∧n=t.fields.length-i∧dN t=ig (t.fields.take i) (t.fields.drop i)∧af=(1,b,aG.cells t.cells)::σ∧rg=[(1,.lp 1 b 0),(3,iv i)]) t.fields.length rfl ⟨_,_,Zr,Zs,0,Z1 _,rfl,hu,rfl,rfl⟩ ?_
 rintro n _ _ ⟨i,hi,hn,hp,rfl,rfl⟩
 repeat'(first|exact .nil|refine .k0 ?_|refine .k1 ?_|refine .k2 ?_|refine .k6 ?_|refine .k7 ?_|refine .k8 ?_|refine .k9 ?_|(refine .cd ?_ ?_<;>(intro hc;skip))|refine .r1 ?_ ?_|(refine .m2 ?_ ?_;intro hlen)|refine .t1 ?_ ?_ ?_|refine .an rfl (by intro aq;first|exact nH _|fail) ?_ ?_|fail)
 try any_goals(exact Zo)
 all_goals(try simp only[BL]at *)
 ·rw[hp,pL (e:=3) (by omega) (Z3 hc) (by decide)]
  exact Zw
 rotate_left
 ·rw[hp,YQ (by omega),ig]
  exact Zw
 refine aH (fun n rg af=>∃ (k:Nat),k≤i∧n=i-k∧(∀ j,j<k→¬(t.fields.getD j default).name=(t.fields.getD i default).name)∧af=(1,b,aG.cells t.cells)::σ∧rg=[(1,.lp 1 b 0),(3,iv i),(4,iv k)]) i rfl ⟨_,_,Zr,Zs,0,Z1 _,rfl,fun j hj=>absurd hj (by omega),rfl,rfl⟩ ?_
 rintro n _ _ ⟨k,hk,im,hq,rfl,rfl⟩
 repeat'(first|exact .nil|refine .k0 ?_|refine .k1 ?_|refine .k2 ?_|refine .k5 ?_|refine .k6 ?_|refine .k7 ?_|refine .k8 ?_|refine .k9 ?_|(refine .cd ?_ ?_<;>(intro hc;skip))|refine .r1 ?_ ?_|refine .t1 ?_ ?_ ?_|refine .an rfl (by intro aq;exact wX (t.fields.getD i default).type) ?_ ?_|fail)
 try any_goals(exact Zo)
 all_goals(try simp only[BL]at *)
 ·have hN:∃ x∈t.fields.take i,x.name=(t.fields.getD i default).name:=⟨_,CU (by omega) hi,hc⟩
  rw[hp,pL (e:=121) (by omega) (by unfold kH;rw[Z6 (XK ‹_›),Z3 hN]) (by decide)]
  exact Zw
 ·refine⟨i-(k+1),by omega,_,_,Zr,Zs,k+1,by omega,rfl,dp hq hc,rfl,by rw[aO (n:=t.fields.length) (i:=k) (by omega) (by assumption)]⟩
 ·have hN:=Am (p:=fun x:bZ=>x.name=(t.fields.getD i default).name) hi (fun j hj=>hq j (by omega))
  rw[hp,pL (by omega) (by unfold kH;rw[Z6 (XK ‹_›),Z6 hN]) hc]
  exact Zw
 ·have hN:=Am (p:=fun x:bZ=>x.name=(t.fields.getD i default).name) hi (fun j hj=>hq j (by omega))
  refine⟨t.fields.length-(i+1),by omega,_,_,Zr,Zs,i+1,by omega,rfl,?_,rfl,by rw[aO (n:=t.fields.length) (by omega) (by assumption)]⟩
  rw[hp,Fg (by omega) (by unfold kH;rw[Z6 (XK ‹_›),Z6 hN];exact hc)]
theorem adS(l:List ae)(h:l≠[])(a sep:ae):kR (l++[a]) sep=kR l sep++(sep++a):=by
 refine j9 ?_
 rw[jz,jz]
 show Lib.join ((l++[a]).map (·.data.toList)) sep.data.toList=Lib.join (l.map (·.data.toList)) sep.data.toList++_
 rw[Zz]
 exact G9 _ _ _ fun e=>h (Ym.1 e)
theorem adR(a sep:ae):kR [a] sep=a:=j9 (by show Lib.join [a.data.toList] sep.data.toList=_;simp[Lib.join,List.intercalate])
def lS(t:aP)(i:Nat):ae:=⟨#[116,97,98,108,101,32]⟩++(t.name++(⟨#[32,111,102,32]⟩++(t.cv++(⟨#[32,123]⟩++kR ((t.fields.take i).map gh) ⟨#[44]⟩))))
theorem aL1(t:aP):⟨#[116,97,98,108,101,32]⟩++t.name++⟨#[32,111,102,32]⟩++t.cv++⟨#[32,123]⟩=lS t 0:=by
 unfold lS
 rw[YB,Y5,show kR [] (⟨#[44]⟩:ae)=⟨#[]⟩from rfl]
 simp only[eH,eS]
theorem aL2{t:aP}(h:0<t.fields.length):lS t 0++⟨#[32]⟩++(t.fields.getD 0 default).name++⟨#[58,32]⟩++lU (t.fields.getD 0 default).type=lS t (0+1):=by
 unfold lS
 rw[qv h,YB,Y5,show kR [] (⟨#[44]⟩:ae)=⟨#[]⟩from rfl]
 simp only[Y0,ZC,Y5,adR,gh,eH,pz]
theorem aL3{t:aP}{i:Nat}(h:i<t.fields.length)(h0:0<i):lS t i++⟨#[44]⟩++⟨#[32]⟩++(t.fields.getD i default).name++⟨#[58,32]⟩++lU (t.fields.getD i default).type=lS t (i+1):=by
 unfold lS
 rw[qv h,Zz,ZC,Y5,adS _ (fun e=>by
  have:=Zy List.length e
  rw[Z7,Z4,Z5]at this
  omega)]
 simp only[gh,eH]
theorem aL4{t:aP}(h:oc t)(i:Nat):(lS t i).size≤4000:=by
 have h1:=Hg ((t.fields.take i).map gh) ⟨#[44]⟩
 have h2:=CN gh 250 (l:=t.fields.take i) fun f hf=>L4 (h.f f (YZ hf))
 have h3:(⟨#[44]⟩:ae).size=1:=rfl
 rw[Z7,h3]at h1
 have h4:(t.fields.take i).length≤8:=by rw[Z4];have:=h.l;omega
 have h5:(kR ((t.fields.take i).map gh) ⟨#[44]⟩).size=(Lib.join (((t.fields.take i).map gh).map (·.data.toList)) (⟨#[44]⟩:ae).data.toList).length:=by show Array.size _=_;rw[Z2]
 have h6:=h.n
 have h7:=h.e
 unfold lS
 ((simp only[Z8,Z5,Z9,Z7,Z4,bz,aV,bU,Z2];omega))
theorem aaC(n:Int)(h:0≤n∧n≤1099511627776):Pure prog 46 [iv n] (sv (iA n)):=by
 have:=Bt n.toNat (by omega)
 rwa [show((n.toNat:Nat):Int)=n by omega]at this
theorem aL7(t:aP):Pure prog 17 [.agg t.cells] (.aE [sv (rU t),iv (dN t)]):=by
 unfold rU
 refine k17.p fun σ=> ?_
 repeat'(first|exact .nil|refine .k0 ?_|refine .k1 ?_|refine .k2 ?_|refine .k6 ?_|refine .k7 ?_|refine .k9 ?_|(refine .cd ?_ ?_<;>(intro hc;skip))|refine .r1 ?_ ?_|(refine .m1 ?_ ?_;intro b)|refine .an rfl (by intro aq;first|exact IM t|fail) ?_ ?_|fail)
 all_goals(try simp only[BL]at *)
 ·refine Sx.Fin.intro Zs (kA ?_ rfl)
  exact(Z6 hc).symm
 any_goals(have hT:=oc.of (t:=t) (by assumption);have cj:=hT.n;have dt:=hT.e;((simp only[Z8,Z5,Z9,Z7,Z4,bz,aV,bU,Z2];omega)))
 have hT:=oc.of hc
 have FP:=hT.k
 have hk:= @zG t.bY (by omega)
 rw[Z3 hc,hc]
 refine aH (fun n rg af=>∃ i:Nat,i≤t.fields.length∧n=t.fields.length-i∧af=(1,b,aG.cells t.cells)::σ∧rg=[(1,.lp 1 b 0),(5,sv (lS t i)),(6,iv i)]) t.fields.length rfl ⟨_,_,Zr,Zs,0,Z1 _,rfl,rfl,by rw[aL1];rfl⟩ ?_
 rintro n _ _ ⟨i,hi,hn,rfl,rfl⟩
 have hf:=fun h=>QT (i:=i) hT h
 have cj:=fun h=>(hf h).2.2.2.1
 have dt:=fun h=>(hf h).2.2.2.2
 have hz:=aL4 hT i
 repeat'(first|exact .nil|refine .k0 ?_|refine .k1 ?_|refine .k2 ?_|refine .k3 ?_|refine .k6 ?_|refine .k7 ?_|refine .k8 ?_|refine .k9 ?_|(refine .cd ?_ ?_<;>(intro hc;skip))|refine .r1 ?_ ?_|(refine .m2 ?_ ?_;intro hlen)|refine .t1 ?_ ?_ ?_|refine .an rfl (by intro aq;first|exact Ol (t.fields.getD i default).type (hf (by(simp only[BL]at *;omega))).1 (hf (by(simp only[BL]at *;omega))).2.1 (hf (by(simp only[BL]at *;omega))).2.2.1|exact aaC t.bY (by first|omega|fail)) ?_ ?_|fail)
 try any_goals(exact Zo)
 all_goals(try simp only[BL]at *)
 any_goals((simp only[Z8,Z5,Z9,Z7,Z4,bz,aV,bU,Z2];omega))
 ·refine⟨t.fields.length-(i+1),by omega,_,_,Zr,Zs,i+1,by omega,rfl,rfl,?_⟩
  rw[aL3 (by omega) (by omega),aO (n:=t.fields.length) (by omega) (by assumption)]
 ·obtain rfl:i=0:=by omega
  refine⟨t.fields.length-(0+1),by omega,_,_,Zr,Zs,0+1,by omega,rfl,rfl,?_⟩
  rw[aL2 (by omega),aO (n:=t.fields.length) (by omega) (by assumption)]
 ·refine Sx.Fin.intro Zs (kA ?_ rfl)
  unfold qu lS
  rw[Z6 hc,ZU (by omega)]
  simp only[eH]
 ·refine Sx.Fin.intro Zs (kA ?_ rfl)
  unfold qu lS
  rw[Z3 hc,ZU (by omega)]
  simp only[pz,eH]
theorem abk(x:Ex)(hs:x.size≤100):Pure prog 49 [.agg x.lay] (.aE [sv (oo x),iv (shape x)]):=by have:=abl x hs;rwa [Ex.bP x]at this
theorem abG(f:aj)(hs:f.body.size≤100):Pure prog 19 [.agg f.cells] (.aE [sv (kG f),iv (mo f)]):=by
 rw[aj.lj]
 have cj:=Rc f.type
 have dt:=Lx f.body hs
 refine k19.p fun σ=> ?_
 repeat'(first|exact .nil|refine .k0 ?_|refine .k1 ?_|refine .k2 ?_|refine .k4 ?_|refine .k7 ?_|refine .k9 ?_|(refine .cd ?_ ?_<;>(intro hc;skip))|refine .r1 ?_ ?_|(refine .m1 ?_ ?_;intro b)|refine .an rfl (by intro aq;first|exact nH _|exact aMp f.type|exact abk f.body hs) ?_ ?_|fail)
 try any_goals(exact Zo)
 all_goals(try simp only[BL]at *)
 any_goals(have h3:Name f.name∧Name f.cv:=by grind
           have h4:=Name.size h3.1
           have h5:=Name.size h3.2
           ((simp only[Z8,Z5,Z9,Z7,Z4,bz,aV,bU,Z2];omega)))
 ·rw[BC hc,vm (by rw[BC hc];decide)]
  exact Zw
 ·have h:=LI (f:=f) (by grind) hc
  rw[h,vm (by rw[h];exact hc)]
  exact Zw
 ·have h:=BD (f:=f) (by grind) (by assumption)
  rw[h,vm (by rw[h];exact hc)]
  exact Zw
 ·have h:=BD (f:=f) (by grind) (by assumption)
  refine Sx.Fin.intro Zs (kA ?_ ?_)
  ·rw[aby (by assumption) hc];exact(Z3 (h.trans hc)).symm
  ·rw[h,hc]
theorem IV{α β:Type}[Inhabited α](g:α→β){l:List α}{i:Nat}(h:i<l.length):(l.map g).take (i+1)=(l.map g).take i++[g (l.getD i default)]:=by
 rw[← List.map_take,qv h,Zz,List.map_take];rfl
theorem IP(t:aP):(rU t).size≤60000:=by
 unfold rU;split
 ·rename_i h
  have hT:=oc.of h
  have h1:=hT.n
  have h2:=hT.e
  have h3:=QW hT
  have h4:= @zG t.bY (by have:=hT.k;omega)
  unfold qu
  split
  all_goals((simp only[Z8,Z5,Z9,Z7,Z4,bz,aV,bU,Z2];omega))
 ·decide
theorem E8{f:aj}(hs:f.body.size≤100):(kG f).size≤60000:=by
 unfold kG;split
 ·rename_i h
  have h0:Name f.name∧Name f.cv∧dO f.type=0∧shape f.body=0:=by
   unfold mo at h
   split at h
   ·omega
   ·rename_i h1
    split at h
    ·rename_i h2;exact absurd h h2
    ·rename_i h2;exact⟨by grind,by grind,Y1.1 h2,h⟩
  have h1:=h0.1.size
  have h2:=h0.2.1.size
  have h3:=DI h0.2.2.1
  have h4:=Q5 h0.2.2.2 hs
  unfold vo
  ((simp only[Z8,Z5,Z9,Z7,Z4,bz,aV,bU,Z2];omega))
 ·decide
structure qP.Small(m:qP):Prop where
 t:m.tables.length≤20
 f:m.features.length≤20
 b:∀ f∈m.features,f.body.size≤100
def Sn(m:qP):Prop:=(∀ t∈m.tables,JO t)∧(∀ f∈m.features,JN f)∧m.tables.length≤20∧m.features.length≤20
instance (m:qP):Decidable (Sn m):=inferInstanceAs (Decidable (_∧_∧_∧_))
structure qP.Fits(m:qP):Prop where
 t:∀ t∈m.tables,t.Fits
 f:∀ f∈m.features,f.Fits
end Go.Proofs.YtomhopcnkicknaaGreatDoor
