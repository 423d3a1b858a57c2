/- The layer: a box that is not written any more becomes a known block. -/
import Derived.Test.YtajimcniogfpcaaGreatDoorGa
import Derived.Test.YtajimcniogfpcaaGreatDoorFa
import Derived.Test.YtajimcniogfpcaaGreatDoorEd
set_option linter.unusedSimpArgs false
set_option linter.unusedVariables false
set_option linter.unusedSectionVars false
namespace Go.Sx
open Go.RowKit Go.Proofs
inductive vY(t b:Nat)(xs:List AV):Store→Store→Prop
 |here {σ:Store}:vY t b xs ((t,b,.cells xs)::σ) σ
 |there {e:Nat×Nat×aR} {σ σ':Store} (h:vY t b xs σ σ'):vY t b xs (e::σ) (e::σ')
theorem vY.perm{t b:Nat}{xs:List AV}{σ σ':Store}(h:vY t b xs σ σ'):List.Perm σ ((t,b,.cells xs)::σ'):=by
 induction h with
 |here=>simp_all
 |there _ ih=>exact(ih.cons _).trans (.swap _ _ _)
inductive oI(b:Nat)(xs:List AV):af→af→Prop
 |nil:oI b xs [] []
 |p0 {i t:Nat} {r r':af} (h:oI b xs r r'):oI b xs ((i,.lp t b 0)::r) ((i,.pc xs)::r')
 |pt {i t o:Nat} {r r':af} (h:oI b xs r r'):oI b xs ((i,.lp t b o)::r) ((i,.pc (xs.drop o))::r')
 |same {i:Nat} {x:AV} {r r':af} (h:oI b xs r r'):oI b xs ((i,x)::r) ((i,x)::r')
theorem oI.lk{b:Nat}{xs:List AV}{r r':af}(h:oI b xs r r')(i:Nat):lk r' i=lk r i∨∃ t o,lk r i= .lp t b o∧lk r' i= .pc (xs.drop o):=by
 induction h with
 |nil=>exact .inl rfl
 | @p0 j t _ _ _ ih=>
  simp only[Sx.lk]
  cases Nat.beq j i with
  |true=>exact .inr ⟨t,0,rfl,rfl⟩
  |false=>exact ih
 | @pt j t o _ _ _ ih=>
  simp only[Sx.lk]
  cases Nat.beq j i with
  |true=>exact .inr ⟨t,o,rfl,rfl⟩
  |false=>exact ih
 | @same j x _ _ _ ih=>
  simp only[Sx.lk]
  cases Nat.beq j i with
  |true=>exact .inl rfl
  |false=>exact ih
section
variable {P:Program}[Glob P]{M:Mem}{w0:Base}{w:World}{σ:Store}
theorem RL.pc{b o:Nat}{xs:List AV}{vs:List Value}(hR:RL M xs vs)(hc:∀ k (h:k<vs.length),M b k=some vs[k]):R M (.pc (xs.drop o)) (.pointer (some ⟨b,o,none⟩)):=by
 refine .pc _ b o (fun k=>vs.getD (o+k) default) (fun k hk=> ?_) (fun k hk=> ?_)
 ·have cj:o+k<vs.length:=by rw[← hR.1];simp at hk;omega
  rw[hc _ cj,ZU,ZY cj];rfl
 ·have lU:o+k<xs.length:=by simp at hk;omega
  have cj:o+k<vs.length:=by rw[← hR.1];exact lU
  rw[X2,ZU,ZY cj]
  exact hR.2 _ lU cj
end
theorem SW.PV{P:Program}[Glob P]{N:Nat}{s:SC}{Q:Exit→af→Store→Prop}{rg ak:af}{σ σ':Store}{t b:Nat}{xs:List AV}(hs:vY t b xs σ σ')(hr:oI b xs rg ak)(h:SW P N s Q ak σ'):SW P N s Q rg σ:=by
 intro c hc M w0 a w hI hR hN hD
 obtain⟨M',vs,hM,bw,dA,hcell⟩:=(hI.perm hs.perm).freeze
 refine Bp (h c hc M' w0 a w bw (fun i=> ?_) hN hD) fun _ _ _ ⟨M2,bJ,aC,h1,h2⟩=>⟨M2,bJ,aC,hM.trans h1,h2⟩
 have h1:=(hR i).mono hM
 rcases hr.lk i with e|⟨t',o,e1,e2⟩
 ·rw[e];exact h1
 ·rw[e1]at h1
  rw[e2]
  have h2:=h1.pB
  rw[h2]
  exact RL.pc dA hcell
theorem tM{P:Program}[Glob P]{N:Nat}{cfg:Nat→Nat}{Q:Exit→af→Store→Prop}{a:AC}{k:List Fr}{rg ak:af}{σ σ':Store}(t b:Nat){xs:List AV}(hs:vY t b xs σ σ')(hr:oI b xs rg ak)(h:WK P N cfg Q a k ak σ'):WK P N cfg Q a k rg σ:=⟨⟨rfl,SW.PV hs hr h.h.h⟩⟩
end Go.Sx
set_option maxRecDepth 100000
set_option maxHeartbeats 4000000
namespace Go.Proofs.YtajimcniogfpcaaGreatDoor
open _root_.Go.Proofs.Tryz
open Go.Sx Go.Proofs Go.Tb
def eF:Ty:=⟨0,[],s0⟩
abbrev jq(t:Ty×Int):AV:= .aP [.agg t.1.cells,iv t.2]
abbrev fD(c:az)(bp:ae)(sC:AV):List AV:=[.sl false 4 (c.tables.map aI.cells),.sl false 18 (c.features.map aj.cells),.sl false 18 (c.aT.map aj.cells),.sl false 18 (c.past.map aj.cells),sv bp,sC]
theorem kA(e:Int):Pure prog 37 [iv e] (jq (eF,e)):=by
 refine k37.p fun σ=> ?_
 repeat'(first|exact .nil|refine .k0 ?_|refine .k1 ?_|refine .k2 ?_|refine .k7 ?_|refine .r1 ?_ ?_|(refine .l1 ?_;intro b)|fail)
 all_goals(try simp only[BL]at *)
 exact Zw
def qP(a b:Ty):Ty×Int:=if a.kind≠b.kind∨a.of≠b.of then(eF,5)else if a.unit≠b.unit then(eF,70)else(a,0)
theorem VB(a b:List ax):Pure prog 121 [.sl false 2 (a.map ax.cells),.sl false 2 (b.map ax.cells)] (.v (.bool (decide (a=b)))):=by
 refine afP.p fun σ=> ?_
 repeat'(first|exact .nil|refine .k0 ?_|refine .k1 ?_|refine .k2 ?_|refine .k7 ?_|refine .r1 ?_ ?_|refine .an rfl (by intro aB;exact O7 _ _) ?_ ?_|fail)
 all_goals(try simp only[BL]at *)
 exact Zw
theorem Mm(x y:Ty):Pure prog 71 [.agg x.cells,.agg y.cells] (jq (qP x y)):=by
 refine k71.p fun σ=> ?_
 repeat'(first|exact .nil|refine .k0 ?_|refine .k1 ?_|refine .k2 ?_|refine .k4 ?_|refine .k7 ?_|refine .k9 ?_|(refine .cd ?_ ?_<;>(intro hc;skip))|refine .r1 ?_ ?_|(refine .l1 ?_;intro b)|(refine .m1 ?_ ?_;intro b)|refine .an rfl (by intro aB;first|exact VB _ _|exact kA _) ?_ ?_|fail)
 try any_goals(exact Zo)
 all_goals(try simp only[BL]at *)
 ·rw[show qP x y=(eF,5)from ZW (by simpa using hc)];exact Zw
 ·rw[show qP x y=(eF,70)from(Z5 (by grind)).trans (ZW hc)];exact Zw
 ·rw[show qP x y=(x,0)from(Z5 (by grind)).trans (Z5 (by grind))];exact Zw
theorem ahO(x:aj)(n:ae):Pure prog 208 [.agg x.cells,.pc [sv n]] (.v (.bool (decide (x.name=n)))):=by
 refine agn.p fun σ=> ?_
 repeat'(first|exact .nil|refine .k0 ?_|refine .k1 ?_|refine .k2 ?_|refine .k7 ?_|refine .r1 ?_ ?_|(refine .m1 ?_ ?_;intro b)|fail)
 all_goals(try simp only[BL]at *)
 ·exact Sx.Fin.intro Zs rfl
theorem afg(fs:List aj)(n:ae):Pure prog 156 [.sl false 18 (fs.map aj.cells),.cl 208 [] [.pc [sv n]]] (iv (firstIdx (fun x=>decide (x.name=n)) fs 0)):=by
 refine R5.p fun σ=> ?_
 repeat'(first|exact .nil|refine .k0 ?_|refine .k1 ?_|refine .k2 ?_|refine .k6 ?_|refine .r1 ?_ ?_|(refine .m2 ?_ ?_;intro hlen)|fail)
 all_goals(try simp only[BL]at *)
 refine bO (fun m rg σ'=>∃ i:Nat,i≤fs.length∧m=fs.length-i∧(∀ j,j<i→¬(fs.getD j default).name=n)∧σ'=σ∧rg=[(0,.sl false 18 (fs.map aj.cells)),(1,.cl 208 [] [.pc [sv n]]),(7,iv fs.length),(8,iv i)]) fs.length rfl ⟨_,_,Zr,Zs,0,ZL _,rfl,fun j hj=>absurd hj (by omega),rfl,rfl⟩ ?_
 rintro m _ _ ⟨i,hi,hn,hp,rfl,rfl⟩
 repeat'(first|exact .nil|refine .k0 ?_|refine .k1 ?_|refine .k2 ?_|refine .k6 ?_|refine .k7 ?_|refine .k8 ?_|refine .k9 ?_|(refine .cd ?_ ?_<;>(intro hc;skip))|refine .r1 ?_ ?_|refine .t1 ?_ ?_ ?_|refine .an rfl (by intro aB;exact ahO _ _) ?_ ?_|fail)
 try any_goals(exact Zo)
 all_goals(try simp only[BL]at *)
 ·rw[uj (p:=fun x:aj=>decide (x.name=n)) (l:=fs) (k:=0) (i:=i) (fun j hj=>Zd (hp j hj)) (by omega) (YR hc),ZA]
  exact Zw
 ·refine⟨fs.length-(i+1),by omega,_,_,Zr,Zs,i+1,by omega,rfl,iP hp hc,rfl,by rw[cu (n:=fs.length) (by omega) (by assumption)]⟩
 ·rw[uk (fun y hy=>Zd (oA (p:=fun y:aj=>¬y.name=n) (fun j hj=>hp j (by omega)) y hy))]
  exact Zw
def vi(fs:List aj)(n bp:ae):Ty×Int:=match findF fs n with
 |none=>(eF,4)
 |some f=>if f.cN=bp then(f.type,0)else(eF,5)
theorem ad2{fs:List aj}{n:ae}:(findF fs n=none∧firstIdx (fun x=>decide (x.name=n)) fs 0= -1)∨∃ i:Nat,i<fs.length∧firstIdx (fun x=>decide (x.name=n)) fs 0=(i:Int)∧findF fs n=some (fs.getD i default):=by
 rcases Em (fun x=>decide (x.name=n)) fs 0 with h|⟨i,h1,h2,h3⟩
 ·exact .inl h
 ·exact .inr ⟨i,h1,by rw[h2,ZA],h3⟩
theorem Te(c:az)(e0 n bp:ae):Pure prog 181 [.agg (fD c e0 (.v .nilFunc)),sv n,sv bp] (jq (vi c.features n bp)):=by
 have hi:=afg c.features n
 unfold vi
 rcases ad2 (fs:=c.features) (n:=n)with⟨h1,h2⟩|⟨i,h0,h2,h1⟩
 all_goals
  rw[h2]at hi
  rw[h1]
  refine age.p fun σ=> ?_
  refine .k1 ?_
  refine .k2 ?_
  repeat'((fail_if_success (show WK _ _ _ _ _ _ _ _));(first|exact .nil|refine .k0 ?_|refine .k1 ?_|refine .r1 ?_ ?_|(refine .l1 ?_;intro b)|(refine .m1 ?_ ?_;intro b)|fail))
  refine .k0 ?_
  rename_i b3 b4
  refine tM 4 b4 (.there .here) (.same (.same (.p0 (.same .nil)))) ?_
  repeat'(first|exact .nil|refine .k0 ?_|refine .k1 ?_|refine .k2 ?_|refine .k6 ?_|refine .k7 ?_|refine .k9 ?_|(refine .cd ?_ ?_<;>(intro hc;skip))|refine .r1 ?_ ?_|refine .t1 ?_ ?_ ?_|refine .an rfl (by intro aB;first|exact hi|exact kA _) ?_ ?_|fail)
  try any_goals(exact Zo)
  all_goals(try simp only[BL]at *)
  all_goals try(show(0:Int)≤_∧_;omega)
 ·exact Zw
 ·exfalso;omega
 ·exfalso;omega
 ·exfalso;omega
 ·rw[Z5 hc];exact Zw
 ·rw[ZW hc];exact Zw
abbrev pL(l:List Ty):AV:= .sl false 3 (l.map Ty.cells)
def gE:Option aI→AV
 |none=> .v .nilFunc
 |some t=> .cl 84 [] [.pc t.cells]
theorem ahv(c:az)(e0:ae)(tb:Option aI)(x:Ex)(l:List Ty):Pure prog 129 [.agg (fD c e0 (gE tb)),.agg x.row,pL l] (jq (⟨x.val.kind,x.unit,x.name⟩,0)):=by
 cases tb
 all_goals
  refine afS.p fun σ=> ?_
  repeat'(first|exact .nil|refine .k0 ?_|refine .k1 ?_|refine .k2 ?_|refine .k7 ?_|refine .r1 ?_ ?_|(refine .l1 ?_;intro b)|(refine .m1 ?_ ?_;intro b)|fail)
  all_goals(try simp only[BL]at *)
  all_goals exact Zw
theorem adJ(c:az)(e0:ae)(x:Ex)(l:List Ty):Pure prog 131 [.agg (fD c e0 (.v .nilFunc)),.agg x.row,pL l] (jq (vi c.features x.name e0)):=by
 have hn:=Te c e0 x.name e0
 generalize vi c.features x.name e0=r at *
 refine afU.p fun σ=> ?_
 repeat'(first|exact .nil|refine .k0 ?_|refine .k1 ?_|refine .k2 ?_|refine .k7 ?_|refine .r1 ?_ ?_|(refine .l1 ?_;intro b)|(refine .m1 ?_ ?_;intro b)|refine .an rfl (by intro aB;first|exact hn|fail) ?_ ?_|fail)
 all_goals(try simp only[BL]at *)
 exact Zw
theorem ahx(c:az)(e0:ae)(x:Ex)(l:List Ty)(hl:0<l.length):Pure prog 132 [.agg (fD c e0 (.v .nilFunc)),.agg x.row,pL l] (jq (if(l.getD 0 default).kind=5 then vi c.features x.name (l.getD 0 default).of else(eF,5))):=by
 have hn:=Te c e0 x.name (l.getD 0 default).of
 generalize vi c.features x.name (l.getD 0 default).of=r at *
 refine afV.p fun σ=> ?_
 repeat'(first|exact .nil|refine .k0 ?_|refine .k1 ?_|refine .k2 ?_|refine .k3 ?_|refine .k7 ?_|refine .k9 ?_|(refine .cd ?_ ?_<;>(intro hc;skip))|refine .r1 ?_ ?_|(refine .l1 ?_;intro b)|(refine .m1 ?_ ?_;intro b)|refine .t1 ?_ ?_ ?_|refine .an rfl (by intro aB;first|exact hn|exact kA _|fail) ?_ ?_|fail)
 try any_goals(exact Zo)
 all_goals(try simp only[BL]at *)
 all_goals try(show(0:Int)≤_∧_;omega)
 all_goals first|(rw[Z5 hc];(refine Sx.Fin.wk Zs ?_;repeat' first|exact .refl _|fail);done)|(rw[ZW hc];(refine Sx.Fin.wk Zs ?_;repeat' first|exact .refl _|fail);done)
theorem acn(c:az)(e0:ae)(tb:Option aI)(x:Ex)(l:List Ty)(hl:l.length=3):Pure prog 136 [.agg (fD c e0 (gE tb)),.agg x.row,pL l] (jq (if(l.getD 0 default).kind=1 then qP (l.getD 1 default) (l.getD 2 default)else(eF,5))):=by
 cases tb
 all_goals
  refine afZ.p fun σ=> ?_
  repeat'(first|exact .nil|refine .k0 ?_|refine .k1 ?_|refine .k2 ?_|refine .k3 ?_|refine .k7 ?_|refine .k9 ?_|(refine .cd ?_ ?_<;>(intro hc;skip))|refine .r1 ?_ ?_|(refine .l1 ?_;intro b)|(refine .m1 ?_ ?_;intro b)|refine .t1 ?_ ?_ ?_|refine .an rfl (by intro aB;first|exact kA _|exact Mm _ _|fail) ?_ ?_|fail)
  try any_goals(exact Zo)
  all_goals(try simp only[BL]at *)
  all_goals try(show(0:Int)≤_∧_;omega)
  all_goals first|(rw[Z5 hc];(refine Sx.Fin.wk Zs ?_;repeat' first|exact .refl _|fail);done)|(rw[ZW hc];(refine Sx.Fin.wk Zs ?_;repeat' first|exact .refl _|fail);done)
theorem adA(c:az)(e0:ae)(tb:Option aI)(x:Ex)(l:List Ty)(hl:l.length=2):Pure prog 137 [.agg (fD c e0 (gE tb)),.agg x.row,pL l] (jq (qP (l.getD 0 default) (l.getD 1 default))):=by
 cases tb
 all_goals
  refine af0.p fun σ=> ?_
  repeat'(first|exact .nil|refine .k0 ?_|refine .k1 ?_|refine .k2 ?_|refine .k3 ?_|refine .k7 ?_|refine .r1 ?_ ?_|(refine .l1 ?_;intro b)|(refine .m1 ?_ ?_;intro b)|refine .t1 ?_ ?_ ?_|refine .an rfl (by intro aB;first|exact Mm _ _|fail) ?_ ?_|fail)
  try any_goals(exact Zo)
  all_goals(try simp only[BL]at *)
  all_goals try(show(0:Int)≤_∧_;omega)
  all_goals exact Zw
def ah7(o:ae)(l:List ae):Prop:=o∈l
instance (o:ae)(l:List ae):Decidable (ah7 o l):=inferInstanceAs (Decidable (o∈l))
def qS(o:ae)(a b:Ty):Ty×Int:=
 if b.kind≠1 then(eF,5)else if o=(⟨#[99,111,117,110,116]⟩:ae)∨o=(⟨#[100,105,115,116,105,110,99,116]⟩:ae)then(⟨2,[],s0⟩,0)else if o=(⟨#[102,105,114,115,116]⟩:ae)∨o=(⟨#[108,97,115,116]⟩:ae)then(a,0)else if(o=(⟨#[109,105,110]⟩:ae)∨o=(⟨#[109,97,120]⟩:ae))∧a.kind=4 then(a,0)
 else if¬Num a then(eF,5)else if o=(⟨#[109,101,97,110]⟩:ae)∨o=(⟨#[100,101,99,97,121]⟩:ae)then(⟨3,a.unit,s0⟩,0)else(a,0)
def vM(o:ae)(a:Ty):Ty×Int:=
 if o=(⟨#[45]⟩:ae)∧Num a then(a,0)else if o=(⟨#[110,117,108,108]⟩:ae)∨(o=(⟨#[110,111,116]⟩:ae)∧a.kind=1)then(⟨1,[],s0⟩,0)else(eF,5)
theorem aby(c:az)(e0:ae)(x:Ex)(l:List Ty)(hl:l.length=2):Pure prog 133 [.agg (fD c e0 (.v .nilFunc)),.agg x.row,pL l] (jq (qS x.op (l.getD 0 default) (l.getD 1 default))):=by
 refine afW.p fun σ=> ?_
 repeat'(first|exact .nil|refine .k0 ?_|refine .k1 ?_|refine .k2 ?_|refine .k4 ?_|refine .k6 ?_|refine .k7 ?_|refine .k9 ?_|(refine .cd ?_ ?_<;>(intro hc;first|exact kf hc (by assumption)|skip))|refine .r1 ?_ ?_|(refine .l1 ?_;intro b)|(refine .m1 ?_ ?_;intro b)|refine .t1 ?_ ?_ ?_|refine .an rfl (by intro aB;first|exact kA _|exact Ff _) ?_ ?_|fail)
 try any_goals(exact Zo)
 all_goals(try simp only[BL]at *)
 all_goals try(show(0:Int)≤_∧_;omega)
 all_goals clear hl
 all_goals generalize l.getD 0 default=A at *
 all_goals generalize l.getD 1 default=B at *
 all_goals first
  |(rw[show qS x.op A B=(eF,5)from by unfold qS;grind];(refine Sx.Fin.wk Zs ?_;repeat' first|exact .refl _|refine .cons ?_ ?_|refine .aP ?_|refine .agg ?_|fail);done)
  |(rw[show qS x.op A B=(A,0)from by unfold qS;grind];(refine Sx.Fin.wk Zs ?_;repeat' first|exact .refl _|refine .cons ?_ ?_|refine .aP ?_|refine .agg ?_|fail);done)
  |(rw[show qS x.op A B=(⟨2,[],s0⟩,0)from by unfold qS;grind];(refine Sx.Fin.wk Zs ?_;repeat' first|exact .refl _|exact .nil|refine .cons ?_ ?_|refine .aP ?_|refine .agg ?_|fail);done)
  |(rw[show qS x.op A B=(⟨3,A.unit,s0⟩,0)from by unfold qS;grind];(refine Sx.Fin.wk Zs ?_;repeat' first|exact .refl _|fail);done)
theorem alj(c:az)(e0:ae)(tb:Option aI)(x:Ex)(l:List Ty)(hl:l.length=1):Pure prog 134 [.agg (fD c e0 (gE tb)),.agg x.row,pL l] (jq (vM x.op (l.getD 0 default))):=by
 cases tb
 all_goals
  refine afX.p fun σ=> ?_
  repeat'(first|exact .nil|refine .k0 ?_|refine .k1 ?_|refine .k2 ?_|refine .k3 ?_|refine .k4 ?_|refine .k6 ?_|refine .k7 ?_|refine .k9 ?_|(refine .cd ?_ ?_<;>(intro hc;first|exact kf hc (by assumption)|skip))|refine .r1 ?_ ?_|(refine .l1 ?_;intro b)|(refine .m1 ?_ ?_;intro b)|refine .t1 ?_ ?_ ?_|refine .an rfl (by intro aB;first|exact kA _|exact Ff _) ?_ ?_|fail)
  try any_goals(exact Zo)
  all_goals(try simp only[BL]at *)
  all_goals try(show(0:Int)≤_∧_;omega)
  all_goals clear hl
  all_goals generalize l.getD 0 default=A at *
  all_goals first
   |(rw[show vM x.op A=(eF,5)from by unfold vM;grind];(refine Sx.Fin.wk Zs ?_;repeat' first|exact .refl _|fail);done)
   |(rw[show vM x.op A=(A,0)from by unfold vM;grind];(refine Sx.Fin.wk Zs ?_;repeat' first|exact .refl _|fail);done)
   |(rw[show vM x.op A=(⟨1,[],s0⟩,0)from by unfold vM;grind];(refine Sx.Fin.wk Zs ?_;repeat' first|exact .refl _|exact .nil|refine .cons ?_ ?_|refine .aP ?_|refine .agg ?_|fail);done)
set_option maxHeartbeats 8000000
theorem Jj{α:Type}[Inhabited α](p:α→Bool):∀ (l:List α) (k:Nat),(l.find? p=none∧firstIdx p l k= -1)∨∃ i:Nat,i<l.length∧firstIdx p l k=((k+i:Nat):Int)∧l.find? p=some (l.getD i default)
 |[],k=> .inl ⟨rfl,rfl⟩
 |x::l,k=>by
  unfold firstIdx
  by_cases h:p x=true
  ·exact .inr ⟨0,by simp,by simp[h],by simp[h]⟩
  ·rcases Jj p l (k+1)with⟨h1,h2⟩|⟨i,h1,h2,h3⟩
   ·exact .inl ⟨by simp[h,h1],by simp[h,h2]⟩
   ·exact .inr ⟨i+1,by simpa using h1,by rw[Z5 h,h2];omega,by simp[h,h3]⟩
def Jg(fs:List c6)(n:ae):Option c6:=fs.find? fun f=>decide (f.name=n)
theorem ad6(x:c6)(n:ae):Pure prog 86 [.agg x.cells,.pc [sv n]] (.v (.bool (decide (x.name=n)))):=by
 refine k86.p fun σ=> ?_
 repeat'(first|exact .nil|refine .k0 ?_|refine .k1 ?_|refine .k2 ?_|refine .k7 ?_|refine .r1 ?_ ?_|(refine .m1 ?_ ?_;intro b)|fail)
 all_goals(try simp only[BL]at *)
 ·exact Sx.Fin.intro Zs rfl
theorem afh(fs:List c6)(n:ae):Pure prog 85 [.sl false 4 (fs.map c6.cells),.cl 86 [] [.pc [sv n]]] (iv (firstIdx (fun x=>decide (x.name=n)) fs 0)):=by
 refine Lg.p fun σ=> ?_
 repeat'(first|exact .nil|refine .k0 ?_|refine .k1 ?_|refine .k2 ?_|refine .k6 ?_|refine .r1 ?_ ?_|(refine .m2 ?_ ?_;intro hlen)|fail)
 all_goals(try simp only[BL]at *)
 refine bO (fun m rg σ'=>∃ i:Nat,i≤fs.length∧m=fs.length-i∧(∀ j,j<i→¬(fs.getD j default).name=n)∧σ'=σ∧rg=[(0,.sl false 4 (fs.map c6.cells)),(1,.cl 86 [] [.pc [sv n]]),(7,iv fs.length),(8,iv i)]) fs.length rfl ⟨_,_,Zr,Zs,0,ZL _,rfl,fun j hj=>absurd hj (by omega),rfl,rfl⟩ ?_
 rintro m _ _ ⟨i,hi,hn,hp,rfl,rfl⟩
 repeat'(first|exact .nil|refine .k0 ?_|refine .k1 ?_|refine .k2 ?_|refine .k6 ?_|refine .k7 ?_|refine .k8 ?_|refine .k9 ?_|(refine .cd ?_ ?_<;>(intro hc;skip))|refine .r1 ?_ ?_|refine .t1 ?_ ?_ ?_|refine .an rfl (by intro aB;exact ad6 _ _) ?_ ?_|fail)
 try any_goals(exact Zo)
 all_goals(try simp only[BL]at *)
 ·rw[uj (p:=fun x:c6=>decide (x.name=n)) (l:=fs) (k:=0) (i:=i) (fun j hj=>Zd (hp j hj)) (by omega) (YR hc),ZA]
  exact Zw
 ·refine⟨fs.length-(i+1),by omega,_,_,Zr,Zs,i+1,by omega,rfl,iP hp hc,rfl,by rw[cu (n:=fs.length) (by omega) (by assumption)]⟩
 ·rw[uk (fun y hy=>Zd (oA (p:=fun y:c6=>¬y.name=n) (fun j hj=>hp j (by omega)) y hy))]
  exact Zw
def Er(fs:List c6)(n:ae):Ty×Int:=match Jg fs n with
 |none=>(eF,4)
 |some f=>(f.type,0)
theorem ad3{fs:List c6}{n:ae}:(Jg fs n=none∧firstIdx (fun x=>decide (x.name=n)) fs 0= -1)∨∃ i:Nat,i<fs.length∧firstIdx (fun x=>decide (x.name=n)) fs 0=(i:Int)∧Jg fs n=some (fs.getD i default):=by
 rcases Jj (fun x:c6=>decide (x.name=n)) fs 0 with h|⟨i,h1,h2,h3⟩
 ·exact .inl h
 ·exact .inr ⟨i,h1,by rw[h2,ZA],h3⟩
theorem adU(t:aI)(n:ae):Pure prog 84 [sv n,.pc t.cells] (jq (Er t.fields n)):=by
 have hi:=afh t.fields n
 unfold Er
 rcases ad3 (fs:=t.fields) (n:=n)with⟨h1,h2⟩|⟨i,h0,h2,h1⟩
 all_goals
  rw[h2]at hi
  rw[h1]
  refine k84.p fun σ=> ?_
  refine .k1 ?_
  refine .k2 ?_
  repeat'((fail_if_success (show WK _ _ _ _ _ _ _ _));(first|exact .nil|refine .k0 ?_|refine .k1 ?_|refine .r1 ?_ ?_|(refine .l1 ?_;intro b)|(refine .m1 ?_ ?_;intro b)|fail))
  refine .k0 ?_
  rename_i b2
  refine tM 2 b2 (.there .here) (.same (.p0 (.same .nil))) ?_
  repeat'(first|exact .nil|refine .k0 ?_|refine .k1 ?_|refine .k2 ?_|refine .k7 ?_|refine .k9 ?_|(refine .cd ?_ ?_<;>(intro hc;skip))|refine .r1 ?_ ?_|refine .t1 ?_ ?_ ?_|refine .an rfl (by intro aB;first|exact hi|exact kA _) ?_ ?_|fail)
  try any_goals(exact Zo)
  all_goals(try simp only[BL]at *)
  all_goals try(show(0:Int)≤_∧_;omega)
  all_goals first|(exfalso;omega)|(refine Sx.Fin.wk Zs ?_;repeat' first|exact .refl _|fail)
theorem adV(c:az)(e0:ae)(t:aI)(x:Ex)(l:List Ty):Pure prog 130 [.agg (fD c e0 (gE (some t))),.agg x.row,pL l] (jq (Er t.fields x.name)):=by
 refine afT.p fun σ=> ?_
 repeat'(first|exact .nil|refine .k0 ?_|refine .k1 ?_|refine .k2 ?_|refine .k7 ?_|refine .r1 ?_ ?_|(refine .l1 ?_;intro b)|(refine .m1 ?_ ?_;intro b)|refine .an rfl (by intro aB;exact adU _ _) ?_ ?_|fail)
 all_goals(try simp only[BL]at *)
 exact Zw
theorem akQ(t:aI)(x:Ex):Pure prog 83 [.agg t.cells,.pc x.row] (.v (.bool (decide (t.name=x.table)))):=by
 refine k83.p fun σ=> ?_
 repeat'(first|exact .nil|refine .k0 ?_|refine .k1 ?_|refine .k2 ?_|refine .k7 ?_|refine .r1 ?_ ?_|(refine .m1 ?_ ?_;intro b)|fail)
 all_goals(try simp only[BL]at *)
 ·exact Sx.Fin.intro Zs rfl
theorem afk(fs:List aI)(x:Ex):Pure prog 82 [.sl false 4 (fs.map aI.cells),.cl 83 [] [.pc x.row]] (iv (firstIdx (fun t=>decide (t.name=x.table)) fs 0)):=by
 refine k82.p fun σ=> ?_
 repeat'(first|exact .nil|refine .k0 ?_|refine .k1 ?_|refine .k2 ?_|refine .k6 ?_|refine .r1 ?_ ?_|(refine .m2 ?_ ?_;intro hlen)|fail)
 all_goals(try simp only[BL]at *)
 refine bO (fun m rg σ'=>∃ i:Nat,i≤fs.length∧m=fs.length-i∧(∀ j,j<i→¬(fs.getD j default).name=x.table)∧σ'=σ∧rg=[(0,.sl false 4 (fs.map aI.cells)),(1,.cl 83 [] [.pc x.row]),(7,iv fs.length),(8,iv i)]) fs.length rfl ⟨_,_,Zr,Zs,0,ZL _,rfl,fun j hj=>absurd hj (by omega),rfl,rfl⟩ ?_
 rintro m _ _ ⟨i,hi,hn,hp,rfl,rfl⟩
 repeat'(first|exact .nil|refine .k0 ?_|refine .k1 ?_|refine .k2 ?_|refine .k6 ?_|refine .k7 ?_|refine .k8 ?_|refine .k9 ?_|(refine .cd ?_ ?_<;>(intro hc;skip))|refine .r1 ?_ ?_|refine .t1 ?_ ?_ ?_|refine .an rfl (by intro aB;exact akQ _ _) ?_ ?_|fail)
 try any_goals(exact Zo)
 all_goals(try simp only[BL]at *)
 ·rw[uj (p:=fun t:aI=>decide (t.name=x.table)) (l:=fs) (k:=0) (i:=i) (fun j hj=>Zd (hp j hj)) (by omega) (YR hc),ZA]
  exact Zw
 ·refine⟨fs.length-(i+1),by omega,_,_,Zr,Zs,i+1,by omega,rfl,iP hp hc,rfl,by rw[cu (n:=fs.length) (by omega) (by assumption)]⟩
 ·rw[uk (fun y hy=>Zd (oA (p:=fun y:aI=>¬y.name=x.table) (fun j hj=>hp j (by omega)) y hy))]
  exact Zw
theorem ad4{fs:List aI}{n:ae}:(iS fs n=none∧firstIdx (fun x=>decide (x.name=n)) fs 0= -1)∨∃ i:Nat,i<fs.length∧firstIdx (fun x=>decide (x.name=n)) fs 0=(i:Int)∧iS fs n=some (fs.getD i default):=by
 rcases Jj (fun x:aI=>decide (x.name=n)) fs 0 with h|⟨i,h1,h2,h3⟩
 ·exact .inl h
 ·exact .inr ⟨i,h1,by rw[h2,ZA],h3⟩
def C2(k:Int):FuncId:=if k=1 then 129 else if k=2 then 130 else if k=3 then 131 else if k=4 then 132 else if k=5 then 133 else if k=6 then 134 else if k=7 then 135 else if k=8 then 136 else 137
theorem UB(c:az)(e0:ae)(tb:Option aI)(k:Int)(hk:1≤k∧k≤9):Pure prog 87 [.agg (fD c e0 (gE tb)),iv k] (.cl (C2 k) [.agg (fD c e0 (gE tb))] []):=by
 have h:k=1∨k=2∨k=3∨k=4∨k=5∨k=6∨k=7∨k=8∨k=9:=by omega
 cases tb<;>rcases h with rfl|rfl|rfl|rfl|rfl|rfl|rfl|rfl|rfl
 all_goals
  refine k87.p fun σ=> ?_
  repeat'(first|exact .nil|refine .k0 ?_|refine .k1 ?_|refine .k2 ?_|refine .k7 ?_|refine .r1 ?_ ?_|(refine .m1 ?_ ?_;intro b)|(refine .l3 ?_;intro b)|refine .r6 ?_ ?_|refine .r7 ?_ ?_|fail)
  all_goals(try simp only[BL]at *)
  all_goals exact Sx.Fin.intro Zs rfl
set_option maxHeartbeats 16000000
def gP(l:List ax)(n:ae):Int:=((l.filter fun f=>decide (f.name=n)).map ax.exp).sum
def Ad(l:List ax):List ax×Int:=
 let ns:=ke (l.map ax.name)
 if∃ n∈ns,gP l n>8∨gP l n< -8 then([],70)else
 let u:=(ns.map fun n=>(⟨n,gP l n⟩:ax)).filter fun f=>decide (f.exp≠0)
 if u.length>4 then([],2)else(u,0)
def ml(a b:List ax)(sg:Int):List ax×Int:=
 if iN a≠0 then([],iN a)else if iN b≠0 then([],iN b)else Ad (a++b.map fun f=>(⟨f.name,sg * f.exp⟩:ax))
abbrev AE(u:List ax×Int):AV:= .aP [.sl false 2 (u.1.map ax.cells),iv u.2]
def lI:Prop:=∀ a b:List ax,Sx.Pure prog 182 [.sl false 2 (a.map ax.cells),.sl false 2 (b.map ax.cells)] (AE (ml a b 1))
def lH:Prop:=∀ a b:List ax,Sx.Pure prog 183 [.sl false 2 (a.map ax.cells),.sl false 2 (b.map ax.cells)] (AE (ml a b (-1)))
def xV:ae:=(⟨#[97,110,100]⟩:ae)
def x3:ae:=(⟨#[111,114]⟩:ae)
def xX:ae:=(⟨#[61,61]⟩:ae)
def xZ:ae:=(⟨#[33,61]⟩:ae)
def vr:ae:=(⟨#[60]⟩:ae)
def vq:ae:=(⟨#[60,61]⟩:ae)
def xY:ae:=(⟨#[42]⟩:ae)
def xW:ae:=(⟨#[47]⟩:ae)
def xU:ae:=(⟨#[43]⟩:ae)
def x4:ae:=(⟨#[45]⟩:ae)
def MO:Ty:=⟨1,[],s0⟩
def mw(o:ae)(a b:Ty):Ty×Int:=
 if o=xV∨o=x3 then(if a.kind=1∧b.kind=1 then(MO,0)else(eF,5))
 else if o=xX∨o=xZ∨o=vr∨o=vq then
  (if Num a∧Num b∧a.unit≠b.unit then(eF,70)
   else if(Num a∧Num b)∨(if o=vr∨o=vq then a.kind=4∧b.kind=4 else a.kind=b.kind∧a.of=b.of∧a.unit=b.unit)then(MO,0)else(eF,5))
 else if¬(Num a∧Num b)then(eF,5)
 else if o=xY then(if(ml a.unit b.unit 1).2≠0 then(eF,70)else(⟨max a.kind b.kind,(ml a.unit b.unit 1).1,s0⟩,0))
 else if o=xW then(if(ml a.unit b.unit (-1)).2≠0 then(eF,70)else(⟨3,(ml a.unit b.unit (-1)).1,s0⟩,0))
 else if(o=xU∨o=x4)∧a.unit≠b.unit then(eF,70)else(⟨max a.kind b.kind,a.unit,s0⟩,0)
theorem ag6(a b:Int):(if b>a then b else a)=max a b:=by rw[Int.max_def];split<;>split<;>omega
theorem abX(hT:lI)(hO:lH)(c:az)(e0:ae)(tb:Option aI)(x:Ex)(l:List Ty)(hl:l.length=2):Pure prog 135 [.agg (fD c e0 (gE tb)),.agg x.row,pL l] (jq (mw x.op (l.getD 0 default) (l.getD 1 default))):=by
 unfold lI at hT
 unfold lH at hO
 cases tb
 all_goals
  refine afY.p fun σ=> ?_
  repeat'(first|exact .nil|refine .k0 ?_|refine .k1 ?_|refine .k2 ?_|refine .k3 ?_|refine .k4 ?_|refine .k6 ?_|refine .k7 ?_|refine .k9 ?_|(refine .cd ?_ ?_<;>(intro hc;first|exact kf hc (by assumption)|skip))|refine .r1 ?_ ?_|(refine .l1 ?_;intro b)|(refine .m1 ?_ ?_;intro b)|refine .t1 ?_ ?_ ?_|refine .an rfl (by intro aB;first|exact Ff _|exact VB _ _|exact kA _|exact hT _ _|exact hO _ _) ?_ ?_|fail)
  try any_goals(exact Zo)
  all_goals(try simp only[BL]at *)
  all_goals try(show(0:Int)≤_∧_;omega)
  all_goals clear hl hT hO
  all_goals generalize l.getD 0 default=A at *
  all_goals generalize l.getD 1 default=B at *
  all_goals try simp only[ZV,Y8,ag6]
  all_goals first
   |(rw[show mw x.op A B=(eF,5)from by unfold mw xV x3 xX xZ vr vq xY xW xU x4;grind];(refine Sx.Fin.wk Zs ?_;repeat' first|exact .refl _|exact .nil|refine .cons ?_ ?_|refine .aP ?_|refine .agg ?_|fail);done)
   |(rw[show mw x.op A B=(MO,0)from by unfold mw xV x3 xX xZ vr vq xY xW xU x4;grind];(refine Sx.Fin.wk Zs ?_;repeat' first|exact .refl _|exact .nil|refine .cons ?_ ?_|refine .aP ?_|refine .agg ?_|fail);done)
   |(rw[show mw x.op A B=(eF,70)from by unfold mw xV x3 xX xZ vr vq xY xW xU x4;grind];(refine Sx.Fin.wk Zs ?_;repeat' first|exact .refl _|fail);done)
   |(rw[show mw x.op A B=(⟨max A.kind B.kind,A.unit,s0⟩,0)from by unfold mw xV x3 xX xZ vr vq xY xW xU x4;grind];(refine Sx.Fin.wk Zs ?_;repeat' first|exact .refl _|fail);done)
   |(rw[show mw x.op A B=(⟨max A.kind B.kind,(ml A.unit B.unit 1).1,s0⟩,0)from by unfold mw xV x3 xX xZ vr vq xY xW xU x4;grind];(refine Sx.Fin.wk Zs ?_;repeat' first|exact .refl _|fail);done)
   |(rw[show mw x.op A B=(⟨3,(ml A.unit B.unit (-1)).1,s0⟩,0)from by unfold mw xV x3 xX xZ vr vq xY xW xU x4;grind];(refine Sx.Fin.wk Zs ?_;repeat' first|exact .refl _|fail);done)
   |trace_state
set_option maxHeartbeats 16000000
def FN(c:az)(e0:ae)(tb:Option aI)(x:Ex)(l:List Ty):Ty×Int:=
 if x.kind=1 then(⟨x.val.kind,x.unit,x.name⟩,0)
 else if x.kind=2 then(match tb with|some t=>Er t.fields x.name|none=>(eF,0))
 else if x.kind=3 then vi c.features x.name e0
 else if x.kind=4 then(if(l.getD 0 default).kind=5 then vi c.features x.name (l.getD 0 default).of else(eF,5))
 else if x.kind=5 then qS x.op (l.getD 0 default) (l.getD 1 default)
 else if x.kind=6 then vM x.op (l.getD 0 default)
 else if x.kind=7 then mw x.op (l.getD 0 default) (l.getD 1 default)
 else if x.kind=8 then(if(l.getD 0 default).kind=1 then qP (l.getD 1 default) (l.getD 2 default)else(eF,5))
 else qP (l.getD 0 default) (l.getD 1 default)
def na(c:az)(e0:ae)(tb:Option aI)(x:Ex):Option aI×Int:=
 if x.kind=5 then(match iS c.tables x.table with
  |none=>(none,4)
  |some t=>if t.cN=e0 then(some t,0)else(none,5))else(tb,0)
def rF(c:az)(e0:ae)(tb:Option aI)(x:Ex)(q:Int)(s:List Ty×Int):Ty×Int:=if q≠0 then(eF,q)else if s.2≠0 then(eF,s.2)else FN c e0 tb x s.1
mutual
def inf(c:az)(e0:ae):Ex→Option aI→Ty×Int
 | .mk k o n t v u p w ks,tb=>rF c e0 tb (.mk k o n t v u p w ks) (na c e0 tb (.mk k o n t v u p w ks)).2 (gH c e0 ks (na c e0 tb (.mk k o n t v u p w ks)).1)
def gH(c:az)(e0:ae):List Ex→Option aI→List Ty×Int
 |[],_=>([],0)
 |x::l,tb=>if(inf c e0 x tb).2≠0 then([],(inf c e0 x tb).2)else((inf c e0 x tb).1::(gH c e0 l tb).1,(gH c e0 l tb).2)
end
theorem Rw(c:az)(e0:ae)(x:Ex)(tb:Option aI):inf c e0 x tb=rF c e0 tb x (na c e0 tb x).2 (gH c e0 x.args (na c e0 tb x).1):=by
 cases x;rw[inf];rfl
theorem K7(c:az)(e0:ae){l:List Ex}{i:Nat}(hi:i<l.length)(tb:Option aI):gH c e0 (l.drop i) tb=if(inf c e0 (l.getD i default) tb).2≠0 then([],(inf c e0 (l.getD i default) tb).2)else((inf c e0 (l.getD i default) tb).1::(gH c e0 (l.drop (i+1)) tb).1,(gH c e0 (l.drop (i+1)) tb).2):=by
 have e:l.drop i=l.getD i default::l.drop (i+1):=by rw[getD_eq hi,Yc]
 rw[e,gH]
theorem Es{ins:Bool}{x:Ex}(h:form ins x=true):(x.kind=1∧x.args.length=0)∨(x.kind=2∧ins=true∧x.args.length=0)∨(x.kind=3∧ins=false∧x.args.length=0)∨(x.kind=4∧ins=false∧x.args.length=1)∨(x.kind=5∧ins=false∧x.args.length=2)∨(x.kind=6∧x.args.length=1)∨(x.kind=7∧x.args.length=2)∨(x.kind=8∧x.args.length=3)∨(x.kind=9∧x.args.length=2):=by
 obtain⟨h1,h2,_⟩:=(wT ins x).1 h
 unfold jF at h1
 unfold qE at h2
 by_cases e1:x.kind=1
 ·rw[Z5 (by omega),Z5 (by omega),Z5 (by omega)]at h2;left;omega
 rw[Z5 e1]at h1
 by_cases e2:x.kind=2
 ·rw[ZW e2]at h1;rw[Z5 (by omega),Z5 (by omega),Z5 (by omega)]at h2;have:=h1.1;right;left;exact⟨e2,this,by omega⟩
 rw[Z5 e2]at h1
 by_cases e3:x.kind=3∨x.kind=4
 ·rw[ZW e3]at h1
  rcases e3 with e|e
  ·rw[Z5 (by omega),Z5 (by omega),Z5 (by omega)]at h2;exact .inr (.inr (.inl ⟨e,h1.1,by omega⟩))
  ·rw[ZW (by omega)]at h2;exact .inr (.inr (.inr (.inl ⟨e,h1.1,by omega⟩)))
 rw[Z5 e3]at h1
 by_cases e5:x.kind=5
 ·rw[ZW e5]at h1;rw[Z5 (by omega),ZW (by omega)]at h2;exact .inr (.inr (.inr (.inr (.inl ⟨e5,h1.1,by omega⟩))))
 rw[Z5 e5]at h1
 by_cases e6:x.kind=6
 ·rw[ZW (by omega)]at h2;exact .inr (.inr (.inr (.inr (.inr (.inl ⟨e6,by omega⟩)))))
 rw[Z5 e6]at h1
 by_cases e7:x.kind=7
 ·rw[Z5 (by omega),ZW (by omega)]at h2;exact .inr (.inr (.inr (.inr (.inr (.inr (.inl ⟨e7,by omega⟩))))))
 rw[Z5 e7]at h1
 by_cases e8:x.kind=8∨x.kind=9
 ·rcases e8 with e|e
  ·rw[Z5 (by omega),Z5 (by omega),ZW e]at h2;exact .inr (.inr (.inr (.inr (.inr (.inr (.inr (.inl ⟨e,by omega⟩)))))))
  ·rw[Z5 (by omega),ZW (by omega)]at h2;exact .inr (.inr (.inr (.inr (.inr (.inr (.inr (.inr ⟨e,by omega⟩)))))))
 ·rw[Z5 e8]at h1;exact h1.elim
theorem UA(hT:lI)(hO:lH)(c:az)(e0:ae)(tb:Option aI)(x:Ex)(hf:form tb.isSome x=true)(l:List Ty)(hl:l.length=x.args.length):Pure prog (C2 x.kind) [.agg (fD c e0 (gE tb)),.agg x.row,pL l] (jq (FN c e0 tb x l)):=by
 unfold FN C2
 rcases Es hf with⟨h,h1⟩|⟨h,h0,h1⟩|⟨h,h0,h1⟩|⟨h,h0,h1⟩|⟨h,h0,h1⟩|⟨h,h1⟩|⟨h,h1⟩|⟨h,h1⟩|⟨h,h1⟩<;>rw[h]
 ·exact ahv c e0 tb x l
 ·cases tb with
  |none=>cases h0
  |some t=>exact adV c e0 t x l
 ·cases tb with
  |none=>exact adJ c e0 x l
  |some t=>cases h0
 ·cases tb with
  |none=>exact ahx c e0 x l (by omega)
  |some t=>cases h0
 ·cases tb with
  |none=>exact aby c e0 x l (by omega)
  |some t=>cases h0
 ·exact alj c e0 tb x l (by omega)
 ·exact abX hT hO c e0 tb x l (by omega)
 ·exact acn c e0 tb x l (by omega)
 ·exact adA c e0 tb x l (by omega)
def DI(rows:List (List AV))(y:AV)(τ:Store):Prop:=(rows=[]∧y=gK∧τ=[])∨∃ b u c,y= .own 3 66 b u c rows∧τ=[(66,b,.tail u c)]
theorem Jy{L:List Ty}{y:AV}{τ:Store}(h:DI (L.map Ty.cells) y τ):Wk y (pL L):=by
 rcases h with⟨hE,rfl,rfl⟩|⟨b,u,c,rfl,rfl⟩
 ·rw[XC.1 hE];exact .nil
 ·exact .own _
theorem Jc{c:az}{e0:ae}{tb:Option aI}{x:Ex}{l:List Ty}{e:Int}(h:¬e=0):rF c e0 tb x 0 (l,e)=(eF,e):=by
 unfold rF;rw[Z5 (by simp),ZW h]
theorem Jd{c:az}{e0:ae}{tb:Option aI}{x:Ex}{l:List Ty}:rF c e0 tb x 0 (l++[],0)=FN c e0 tb x l:=by
 unfold rF;rw[Z5 (by simp),Z5 (by simp),YX]
theorem Mg(k:Int):ij prog (C2 k)=true:=by
 unfold C2
 repeat' first|rfl|split
def A0(C:az)(e0:ae)(x:Ex):Prop:=∀ tb,form tb.isSome x=true→Sx.Pure prog 38 [.agg (fD C e0 (gE tb)),.agg x.row] (jq (inf C e0 x tb))
theorem afn(hT:lI)(hO:lH)(C:az)(e0:ae)(x:Ex)(ih:∀ i,i<x.args.length→A0 C e0 (x.args.getD i default))(tb:Option aI)(hf:form tb.isSome x=true)(hk:¬x.kind=5):Pure prog 38 [.agg (fD C e0 (gE tb)),.agg x.row] (jq (inf C e0 x tb)):=by
 have nP:=Es hf
 have hB:=UB C e0 tb x.kind (by omega)
 have nL:=UA hT hO C e0 tb x hf
 have EK:x.args.length≤3:=by omega
 have rN:∀ i,i<x.args.length→form tb.isSome (x.args.getD i default)=true:=fun i hi=>by
  have:=((wT _ x).1 hf).2.2.1 _ (dt hi)
  rwa [Zd hk,Bool.or_false]at this
 have hA0:=fun(i:Nat) (h:i<x.args.length)=>ih i h tb (rN i h)
 have dS:na C e0 tb x=(tb,0):=Z5 hk
 rw[Rw,dS]
 simp only[Ex.fe x]at nL ⊢
 rcases tb with _|tab
 all_goals
  refine Fi.p fun σ=> ?_
  refine .k1 ?_
  refine .k2 ?_
  repeat'((fail_if_success (show WK _ _ _ _ _ _ _ _));(first|exact .nil|refine .k0 ?_|refine .k1 ?_|refine .r1 ?_ ?_|(refine .l1 ?_;intro b)|(refine .m1 ?_ ?_;intro b)|fail))
  refine .k0 ?_
  rename_i b2 b3
  rename Nat=>b4
  refine tM 3 b3 (.there .here) (.same (.p0 (.same .nil))) ?_
  repeat'(first|exact .nil|refine .k0 ?_|refine .k1 ?_|refine .k2 ?_|refine .k6 ?_|refine .k9 ?_|(refine .cd ?_ ?_<;>(intro hc;skip))|refine .r1 ?_ ?_|(refine .l1 ?_;intro b)|(refine .m2 ?_ ?_;intro hlen)|fail)
  all_goals(try simp only[BL]at *)
  all_goals try(exfalso;exact hk hc)
  rename Nat=>b6
 ·refine bO (fun m rg σ'=>∃ (i:Nat) (L:List Ty) (y:AV) (τ:Store),i≤x.args.length∧m=x.args.length-i∧L.length=i∧gH C e0 x.args none=(L++(gH C e0 (x.args.drop i) none).1,(gH C e0 (x.args.drop i) none).2)∧DI (L.map Ty.cells) y τ∧σ'=τ++(6,b6,aR.cells (fD C e0 (gE none)))::(4,b4,aR.cells [iv 0,gK,sv s0])::(2,b2,aR.cells (fD C e0 (gE none)))::σ∧rg=[(2,.lp 2 b2 0),(3,.pc x.lay),(4,.lp 4 b4 0),(6,.lp 6 b6 0),(9,y),(45,.sl false 12 (x.args.map Ex.row)),(46,iv x.args.length),(47,iv i)]) x.args.length rfl ⟨_,_,Zr,Zs,0,[],_,_,ZL _,rfl,rfl,rfl,.inl ⟨rfl,rfl,rfl⟩,rfl,rfl⟩ ?_
  rintro m _ _ ⟨i,L,y,τ,hi,hm,hL,o9,hG,rfl,rfl⟩
  have hW:=Jy hG
  have cJ:=fun(h:L.length=x.args.length)=>(nL L h).wk (.cons (.refl _) (.cons (.refl _) (.cons hW .nil)))
  have hA:=hA0 i
  have hd:=fun(h:i<x.args.length) TB=>K7 C e0 h TB
  have zt:=hG
  rcases hG with⟨hE,rfl,rfl⟩|⟨b7,u7,c7,rfl,rfl⟩
  all_goals
   repeat'(first|exact .nil|refine .k0 ?_|refine .k1 ?_|refine .k2 ?_|refine .k3 ?_|refine .k6 ?_|refine .k7 ?_|refine .k8 ?_|refine .k9 ?_|(refine .cd ?_ ?_<;>(intro hc;skip))|refine .r1 ?_ ?_|(refine .l1 ?_;intro b)|refine .t1 ?_ ?_ ?_|refine .u1 ?_ ?_ ?_ (fun b u c=> ?_)|refine .u2 ?_ ?_ ?_ (fun b u c=> ?_)|refine .an rfl (by intro aB;first|exact kA _|exact hA (by(simp only[BL]at *;omega))|exact hB) ?_ ?_|(show List.all _ _=true;rfl)|fail)
   try any_goals(exact Zo)
   all_goals(try simp only[BL]at *)
   all_goals try(refine DN rfl (Mg _) (fun _=>cJ (by omega)) OB.nil ?_)
   all_goals repeat'(first|exact .nil|refine .k0 ?_|refine .k1 ?_|refine .k7 ?_|refine .r1 ?_ ?_|fail)
   all_goals try any_goals(fail)
   all_goals(try simp only[BL]at *)
   all_goals try(show _≤1000000;simp only[Z8,Z0];omega)
   all_goals try(show _ * _≤_;simp only[Z4,Z8,Z0];omega)
   all_goals first
    |(show Sx.Fin _ _ _ _
      have cD:i<x.args.length:=by omega
      rw[o9,hd cD,ZW hc,Jc hc];exact Zw;done)
    |(show Sx.Fin _ _ _ _
      have cD:i=x.args.length:=by omega
      subst cD
      rw[o9,Yg,gH,Jd];exact Zw;done)
    |(have cD:i<x.args.length:=by omega
      refine⟨m-1,by omega,_,[(66,b,.tail u c)]++(6,b6,aR.cells (fD C e0 (gE none)))::(4,b4,aR.cells [iv 0,gK,sv s0])::(2,b2,aR.cells (fD C e0 (gE none)))::σ,Zr,Zs,i+1,L++[(inf C e0 (x.args.getD i default) none).1],_,_,by omega,by omega,by simp[hL],?_,.inr ⟨b,u,c,?_,rfl⟩,rfl,by rw[cu (n:=50) (by omega) (by decide)]⟩
      ·rw[o9,hd cD,Z5 (by rw[hc];simp)];simp
      ·rw[Y7];first|rfl|(rw[hE];rfl))
 ·refine bO (fun m rg σ'=>∃ (i:Nat) (L:List Ty) (y:AV) (τ:Store),i≤x.args.length∧m=x.args.length-i∧L.length=i∧gH C e0 x.args (some tab)=(L++(gH C e0 (x.args.drop i) (some tab)).1,(gH C e0 (x.args.drop i) (some tab)).2)∧DI (L.map Ty.cells) y τ∧σ'=τ++(6,b6,aR.cells (fD C e0 (gE (some tab))))::(4,b4,aR.cells [iv 0,gK,sv s0])::(2,b2,aR.cells (fD C e0 (gE (some tab))))::σ∧rg=[(2,.lp 2 b2 0),(3,.pc x.lay),(4,.lp 4 b4 0),(6,.lp 6 b6 0),(9,y),(45,.sl false 12 (x.args.map Ex.row)),(46,iv x.args.length),(47,iv i)]) x.args.length rfl ⟨_,_,Zr,Zs,0,[],_,_,ZL _,rfl,rfl,rfl,.inl ⟨rfl,rfl,rfl⟩,rfl,rfl⟩ ?_
  rintro m _ _ ⟨i,L,y,τ,hi,hm,hL,o9,hG,rfl,rfl⟩
  have hW:=Jy hG
  have cJ:=fun(h:L.length=x.args.length)=>(nL L h).wk (.cons (.refl _) (.cons (.refl _) (.cons hW .nil)))
  have hA:=hA0 i
  have hd:=fun(h:i<x.args.length) TB=>K7 C e0 h TB
  have zt:=hG
  rcases hG with⟨hE,rfl,rfl⟩|⟨b7,u7,c7,rfl,rfl⟩
  all_goals
   repeat'(first|exact .nil|refine .k0 ?_|refine .k1 ?_|refine .k2 ?_|refine .k3 ?_|refine .k6 ?_|refine .k7 ?_|refine .k8 ?_|refine .k9 ?_|(refine .cd ?_ ?_<;>(intro hc;skip))|refine .r1 ?_ ?_|(refine .l1 ?_;intro b)|refine .t1 ?_ ?_ ?_|refine .u1 ?_ ?_ ?_ (fun b u c=> ?_)|refine .u2 ?_ ?_ ?_ (fun b u c=> ?_)|refine .an rfl (by intro aB;first|exact kA _|exact hA (by(simp only[BL]at *;omega))|exact hB) ?_ ?_|(show List.all _ _=true;rfl)|fail)
   try any_goals(exact Zo)
   all_goals(try simp only[BL]at *)
   all_goals try(refine DN rfl (Mg _) (fun _=>cJ (by omega)) OB.nil ?_)
   all_goals repeat'(first|exact .nil|refine .k0 ?_|refine .k1 ?_|refine .k7 ?_|refine .r1 ?_ ?_|fail)
   all_goals try any_goals(fail)
   all_goals(try simp only[BL]at *)
   all_goals try(show _≤1000000;simp only[Z8,Z0];omega)
   all_goals try(show _ * _≤_;simp only[Z4,Z8,Z0];omega)
   all_goals first
    |(show Sx.Fin _ _ _ _
      have cD:i<x.args.length:=by omega
      rw[o9,hd cD,ZW hc,Jc hc];exact Zw;done)
    |(show Sx.Fin _ _ _ _
      have cD:i=x.args.length:=by omega
      subst cD
      rw[o9,Yg,gH,Jd];exact Zw;done)
    |(have cD:i<x.args.length:=by omega
      refine⟨m-1,by omega,_,[(66,b,.tail u c)]++(6,b6,aR.cells (fD C e0 (gE (some tab))))::(4,b4,aR.cells [iv 0,gK,sv s0])::(2,b2,aR.cells (fD C e0 (gE (some tab))))::σ,Zr,Zs,i+1,L++[(inf C e0 (x.args.getD i default) (some tab)).1],_,_,by omega,by omega,by simp[hL],?_,.inr ⟨b,u,c,?_,rfl⟩,rfl,by rw[cu (n:=50) (by omega) (by decide)]⟩
      ·rw[o9,hd cD,Z5 (by rw[hc];simp)];simp
      ·rw[Y7];first|rfl|(rw[hE];rfl))
theorem afm(hT:lI)(hO:lH)(C:az)(e0:ae)(x:Ex)(ih:∀ i,i<x.args.length→A0 C e0 (x.args.getD i default))(hf:form false x=true)(hk:x.kind=5):Pure prog 38 [.agg (fD C e0 (gE none)),.agg x.row] (jq (inf C e0 x none)):=by
 have nP:=Es hf
 have hB:=UB C e0 none x.kind (by omega)
 have nL:=UA hT hO C e0 none x hf
 have EK:x.args.length≤3:=by omega
 have rN:∀ i,i<x.args.length→form true (x.args.getD i default)=true:=fun i hi=>by
  have:=((wT _ x).1 hf).2.2.1 _ (dt hi)
  rwa [YR hk,Bool.or_true]at this
 have hA0:=fun(tab:aI) (i:Nat) (h:i<x.args.length)=>ih i h (some tab) (rN i h)
 have hi:=afk C.tables x
 rw[Rw]
 rcases ad4 (fs:=C.tables) (n:=x.table)with⟨h1,h2⟩|⟨i0,h0,h2,h1⟩
 ·have dS:na C e0 none x=(none,4):=by unfold na;rw[ZW hk,h1]
  rw[dS,show rF C e0 none x 4 (gH C e0 x.args none)=(eF,4)from ZW (by simp)]
  rw[h2]at hi
  simp only[Ex.fe x]at nL hi ⊢
  refine Fi.p fun σ=> ?_
  refine .k1 ?_
  refine .k2 ?_
  repeat'((fail_if_success (show WK _ _ _ _ _ _ _ _));(first|exact .nil|refine .k0 ?_|refine .k1 ?_|refine .r1 ?_ ?_|(refine .l1 ?_;intro b)|(refine .m1 ?_ ?_;intro b)|fail))
  refine .k0 ?_
  rename_i b2 b3
  refine tM 3 b3 (.there .here) (.same (.p0 (.same .nil))) ?_
  repeat'(first|exact .nil|refine .k0 ?_|refine .k1 ?_|refine .k2 ?_|refine .k6 ?_|refine .k7 ?_|refine .k9 ?_|(refine .cd ?_ ?_<;>(intro hc;skip))|refine .r1 ?_ ?_|(refine .l1 ?_;intro b)|(refine .m2 ?_ ?_;intro hlen)|refine .t1 ?_ ?_ ?_|refine .an rfl (by intro aB;first|exact hi|exact kA _|fail) ?_ ?_|fail)
  try any_goals(exact Zo)
  all_goals(try simp only[BL]at *)
  all_goals first|(exfalso;omega)|(show Sx.Fin _ _ _ _;(refine Sx.Fin.wk Zs ?_;repeat' first|exact .refl _|fail);done)
 by_cases EU:(C.tables.getD i0 default).cN=e0
 rotate_left
 ·have dS:na C e0 none x=(none,5):=by unfold na;rw[ZW hk,h1];exact Z5 EU
  rw[dS,show rF C e0 none x 5 (gH C e0 x.args none)=(eF,5)from ZW (by simp)]
  rw[h2]at hi
  simp only[Ex.fe x]at nL hi ⊢
  refine Fi.p fun σ=> ?_
  refine .k1 ?_
  refine .k2 ?_
  repeat'((fail_if_success (show WK _ _ _ _ _ _ _ _));(first|exact .nil|refine .k0 ?_|refine .k1 ?_|refine .r1 ?_ ?_|(refine .l1 ?_;intro b)|(refine .m1 ?_ ?_;intro b)|fail))
  refine .k0 ?_
  rename_i b2 b3
  refine tM 3 b3 (.there .here) (.same (.p0 (.same .nil))) ?_
  repeat'(first|exact .nil|refine .k0 ?_|refine .k1 ?_|refine .k2 ?_|refine .k6 ?_|refine .k7 ?_|refine .k9 ?_|(refine .cd ?_ ?_<;>(intro hc;skip))|refine .r1 ?_ ?_|(refine .l1 ?_;intro b)|(refine .m2 ?_ ?_;intro hlen)|refine .t1 ?_ ?_ ?_|refine .an rfl (by intro aB;first|exact hi|exact kA _|fail) ?_ ?_|fail)
  try any_goals(exact Zo)
  all_goals(try simp only[BL]at *)
  all_goals first|(exfalso;omega)|(exfalso;exact EU hc)|(show Sx.Fin _ _ _ _;(refine Sx.Fin.wk Zs ?_;repeat' first|exact .refl _|fail);done)
 have dS:na C e0 none x=(some (C.tables.getD i0 default),0):=by unfold na;rw[ZW hk,h1];exact ZW EU
 rw[dS]
 rw[h2]at hi
 simp only[Ex.fe x]at nL hi ⊢
 have hA0:=hA0 (C.tables.getD i0 default)
 refine Fi.p fun σ=> ?_
 refine .k1 ?_
 refine .k2 ?_
 repeat'((fail_if_success (show WK _ _ _ _ _ _ _ _));(first|exact .nil|refine .k0 ?_|refine .k1 ?_|refine .r1 ?_ ?_|(refine .l1 ?_;intro b)|(refine .m1 ?_ ?_;intro b)|fail))
 refine .k0 ?_
 rename_i b2 b3
 rename Nat=>b4
 refine tM 3 b3 (.there .here) (.same (.p0 (.same .nil))) ?_
 repeat'((fail_if_success (show WK _ _ _ _ (.aQ [2,3,4,6,8] _) _ _ _));(first|exact .nil|refine .k0 ?_|refine .k1 ?_|refine .k2 ?_|refine .k6 ?_|refine .k7 ?_|refine .k9 ?_|(refine .cd ?_ ?_<;>(intro hc;skip))|refine .r1 ?_ ?_|(refine .l1 ?_;intro b)|(refine .m2 ?_ ?_;intro hlen)|refine .t1 ?_ ?_ ?_|refine .an rfl (by intro aB;first|exact hi|exact kA _|fail) ?_ ?_|fail))
 try any_goals(exact Zo)
 all_goals(try simp only[BL]at *)
 ·exfalso;omega
 rotate_left
 ·exfalso;exact hc hk
 refine .k0 ?_
 rename_i b6 _
 refine tM 8 b .here (.same (.same (.same (.same (.p0 .nil))))) ?_
 repeat'(first|exact .nil|refine .k0 ?_|refine .k1 ?_|refine .k2 ?_|refine .k6 ?_|refine .k7 ?_|refine .k9 ?_|(refine .cd ?_ ?_<;>(intro hc;skip))|refine .r1 ?_ ?_|(refine .m2 ?_ ?_;intro hlen)|refine .an rfl (by intro aB;first|exact kA _|fail) ?_ ?_|fail)
 all_goals(try simp only[BL]at *)
 ·exfalso;exact hc EU
 refine bO (fun m rg σ'=>∃ (i:Nat) (L:List Ty) (y:AV) (τ:Store),i≤x.args.length∧m=x.args.length-i∧L.length=i∧gH C e0 x.args (some (C.tables.getD i0 default))=(L++(gH C e0 (x.args.drop i) (some (C.tables.getD i0 default))).1,(gH C e0 (x.args.drop i) (some (C.tables.getD i0 default))).2)∧DI (L.map Ty.cells) y τ∧σ'=τ++(6,b6,aR.cells (fD C e0 (gE (some (C.tables.getD i0 default)))))::(4,b4,aR.cells [iv 0,gK,sv s0])::(2,b2,aR.cells (fD C e0 (gE none)))::σ∧rg=[(2,.lp 2 b2 0),(3,.pc x.lay),(4,.lp 4 b4 0),(6,.lp 6 b6 0),(9,y),(45,.sl false 12 (x.args.map Ex.row)),(46,iv x.args.length),(47,iv i)]) x.args.length rfl ⟨_,_,Zr,Zs,0,[],_,_,ZL _,rfl,rfl,rfl,.inl ⟨rfl,rfl,rfl⟩,rfl,rfl⟩ ?_
 rintro m _ _ ⟨i,L,y,τ,hi,hm,hL,o9,hG,rfl,rfl⟩
 have hW:=Jy hG
 have cJ:=fun(h:L.length=x.args.length)=>(nL L h).wk (.cons (.refl _) (.cons (.refl _) (.cons hW .nil)))
 have hA:=hA0 i
 have hd:=fun(h:i<x.args.length) TB=>K7 C e0 h TB
 have zt:=hG
 rcases hG with⟨hE,rfl,rfl⟩|⟨b7,u7,c7,rfl,rfl⟩
 all_goals
  repeat'(first|exact .nil|refine .k0 ?_|refine .k1 ?_|refine .k2 ?_|refine .k3 ?_|refine .k6 ?_|refine .k7 ?_|refine .k8 ?_|refine .k9 ?_|(refine .cd ?_ ?_<;>(intro hc;skip))|refine .r1 ?_ ?_|(refine .l1 ?_;intro b)|refine .t1 ?_ ?_ ?_|refine .u1 ?_ ?_ ?_ (fun b u c=> ?_)|refine .u2 ?_ ?_ ?_ (fun b u c=> ?_)|refine .an rfl (by intro aB;first|exact kA _|exact hA (by(simp only[BL]at *;omega))|exact hB) ?_ ?_|(show List.all _ _=true;rfl)|fail)
  try any_goals(exact Zo)
  all_goals(try simp only[BL]at *)
  all_goals try(refine DN rfl (Mg _) (fun _=>cJ (by omega)) OB.nil ?_)
  all_goals repeat'(first|exact .nil|refine .k0 ?_|refine .k1 ?_|refine .k7 ?_|refine .r1 ?_ ?_|fail)
  all_goals try any_goals(fail)
  all_goals(try simp only[BL]at *)
  all_goals try(show _≤1000000;simp only[Z8,Z0];omega)
  all_goals try(show _ * _≤_;simp only[Z4,Z8,Z0];omega)
  all_goals first
   |(show Sx.Fin _ _ _ _
     have cD:i<x.args.length:=by omega
     rw[o9,hd cD,ZW hc,Jc hc];exact Zw;done)
   |(show Sx.Fin _ _ _ _
     have cD:i=x.args.length:=by omega
     subst cD
     rw[o9,Yg,gH,Jd];exact Zw;done)
   |(have cD:i<x.args.length:=by omega
     refine⟨m-1,by omega,_,[(66,b,.tail u c)]++(6,b6,aR.cells (fD C e0 (gE (some (C.tables.getD i0 default)))))::(4,b4,aR.cells [iv 0,gK,sv s0])::(2,b2,aR.cells (fD C e0 (gE none)))::σ,Zr,Zs,i+1,L++[(inf C e0 (x.args.getD i default) (some (C.tables.getD i0 default))).1],_,_,by omega,by omega,by simp[hL],?_,.inr ⟨b,u,c,?_,rfl⟩,rfl,by rw[cu (n:=50) (by omega) (by decide)]⟩
     ·rw[o9,hd cD,Z5 (by rw[hc];simp)];simp
     ·rw[Y7];first|rfl|(rw[hE];rfl))
theorem Rz(hT:lI)(hO:lH)(C:az)(e0:ae):∀ (n:Nat) (x:Ex),x.size≤n→A0 C e0 x
 |0,x,h=>by cases x;simp[Ex.size]at h
 |n+1,x,h=>fun tb hf=>by
  have ih:∀ i,i<x.args.length→A0 C e0 (x.args.getD i default):=fun i hi=>Rz hT hO C e0 n _ (by have:=Ex.Mp x hi;omega)
  by_cases hk:x.kind=5
  ·have h5:tb=none:=by
    rcases Es hf with h|h|h|h|h|h|h|h|h
    all_goals first|omega|skip
    cases tb with
    |none=>rfl
    |some t=>exact absurd h.2.1 (by simp)
   subst h5
   exact afm hT hO C e0 x ih hf hk
  ·exact afn hT hO C e0 x ih tb hf hk
theorem afo(hT:lI)(hO:lH)(C:az)(e0:ae)(x:Ex):A0 C e0 x:=Rz hT hO C e0 x.size x (ZM _)
def nc(C:az)(e0:ae)(x:Ex):Ty×Int:=if shape x≠0 then(eF,shape x)else inf C e0 x none
theorem aki{x:Ex}(h:shape x=0):form false x=true:=by
 unfold shape at h
 split at h
 ·omega
 ·split at h
  ·assumption
  ·omega
theorem Ry(hT:lI)(hO:lH)(C:az)(e0:ae)(x:Ex)(hs:x.size≤100000):Pure prog 12 [.agg C.cells,sv e0,.agg x.row] (jq (nc C e0 x)):=by
 have hS:=Db x hs
 have hI:=fun(h:shape x=0)=>afo hT hO C e0 x none (aki h)
 unfold nc
 generalize inf C e0 x none=r at *
 generalize shape x=q at *
 refine k12.p fun σ=> ?_
 repeat'(first|exact .nil|refine .k0 ?_|refine .k1 ?_|refine .k2 ?_|refine .k7 ?_|refine .k9 ?_|(refine .cd ?_ ?_<;>(intro hc;skip))|refine .r1 ?_ ?_|(refine .l1 ?_;intro b)|(refine .m1 ?_ ?_;intro b)|refine .an rfl (by intro aB;first|exact hS|exact kA _|exact hI (by(simp only[BL]at *;omega))) ?_ ?_|fail)
 all_goals(try simp only[BL]at *)
 ·rw[ZW hc];exact Zw
 ·rw[Z5 (by simpa using hc)];exact Zw
end Go.Proofs.YtajimcniogfpcaaGreatDoor
set_option maxHeartbeats 1000000
namespace Go.Proofs.YtajimcniogfpcaaGreatDoor
open _root_.Go.Proofs.Tryz
open Go.Sx Go.Proofs Go.Tb Go.RowKit
def vk(p:ae×Int):Value:= .agg #[.string p.1,.int .i64 p.2]
theorem MA(a b:ByteArray):(a == b)=decide (a=b):=by
 obtain⟨a⟩:=a
 obtain⟨b⟩:=b
 rw[YJ]
 show(a == b)=true↔_
 simp
theorem alN:prog.stoodInHeld 135=false:=by kernel_rfl
theorem VW(w:World)(p q:ae×Int):(Op.equal 135 (vk p) (vk q)).run prog w= .ok (decide (p=q)) w:=by
 have h0:=underlying135
 have h1:=underlying9
 have h2:=underlying3
 have h3:=alN
 have key:∀ d:Nat,(Op.equalIn (d+1+1) 135 (vk p) (vk q)).run prog w= .ok (decide (p=q)) w:=fun d=>by
  simp only[Op.equalIn,vk,Sem.run_bind,aZ h0,Result.andThen_ok]
  simp[h3,part,sizeOf,program,isAgg,Op.equalIn,aZ h1,aZ h2]
  show(if prog.stoodInHeld 135=true then _ else(if(p.fst == q.fst)=false then Result.ok false w else if p.snd=q.snd then Result.ok true w else Result.ok false w))=_
  rw[h3,Z5 (by decide),MA]
  obtain⟨a,i⟩:=p
  obtain⟨b,j⟩:=q
  by_cases h:a=b
  ·subst h
   by_cases h':i=j
   ·subst h';simp
   ·simp[h']
  ·simp[h]
 exact key 9998
theorem VU(w:World)(b:Bool)(p:ae×Int):(Instr.checkKey b 10000 135 (vk p)).run prog w= .ok () w:=by
 have h0:=underlying135
 have h1:=underlying9
 have h2:=underlying3
 have key:∀ d:Nat,(Instr.checkKey b (d+1+1) 135 (vk p)).run prog w= .ok () w:=fun d=>by
  simp only[Instr.checkKey,vk,Sem.run_bind,aZ h0,Result.andThen_ok]
  simp[part,sizeOf,program,isAgg,Instr.checkKey,aZ h1,aZ h2]
 exact key 9998
def vE(vs:List (ae×Int)):List (Value×Nat×AV):=vs.zipIdx.map fun p=>(vk p.1,p.2,.v (.bool true))
theorem alx(vs:List (ae×Int))(p:ae×Int):vE vs++[(vk p,vs.length,.v (.bool true))]=vE (vs++[p]):=by
 unfold vE;rw[List.zipIdx_append];simp
theorem VZ(w:World)(p:ae×Int):∀ (vs:List (ae×Int)) (l:List MapEntry) (k i:Nat),l.map (fun e=>(e.key,e.born))=(vs.zipIdx k).map (fun q=>(vk q.1,q.2))→RL (fun _ _=>none) (vs.map fun _=> .v (.bool true)) (l.map (·.val))→
  ∃ r,(Instr.findAsking 135 (vk p) l i).run prog w= .ok r w∧(p∈vs→∃ j,r=some (j,.bool true))∧(p∉vs→r=none)
 |[],l,k,i,h,_=>by
  have:l=[]:=by simpa using h
  subst this
  exact⟨none,by simp[Instr.findAsking],fun h=>(by cases h),fun _=>rfl⟩
 |v::vs,l,k,i,h,hv=>by
  cases l with
  |nil=>simp at h
  |cons e l=>
   simp only[List.zipIdx_cons,ZE,Z3,Y3]at h
   obtain⟨u,us,e1,h2,h3⟩:=RL.bg (x:= .v (.bool true)) (xs:=vs.map fun _=> .v (.bool true)) hv
   simp only[ZE,Z3]at e1
   obtain⟨r,hr,ha,hb⟩:=VZ w p vs l (k+1) (i+1) h.2 (by rw[e1.2];exact h3)
   by_cases hp:p=v
   ·subst hp
    refine⟨some (i,.bool true),?_,fun _=>⟨i,rfl⟩,fun h=>absurd (ZC) h⟩
    simp only[Instr.findAsking,h.1.1,Sem.run_bind,VW,Result.andThen_ok,decide_true,Y2,Sem.run_pure]
    rw[e1.1,h2.ay]
   ·refine⟨r,?_,fun h=>ha ((ZT.1 h).resolve_left hp),fun h=>hb fun h'=>h (ZO _ h')⟩
    simp only[Instr.findAsking,h.1.1,Sem.run_bind,VW,Result.andThen_ok,Zd hp,ZV,Y8]
    exact hr
section
variable {M:Mem}{w0:Base}{w:World}{σ:Store}
theorem aly(vs:List (ae×Int)):(vE vs).map (·.2.2)=vs.map fun _=>AV.v (.bool true):=by
 unfold vE
 rw[Yi]
 refine X7 (by simp) fun j h1 h2=>by simp
theorem alw(vs:List (ae×Int)):(vE vs).map (fun e=>(e.1,e.2.1))=vs.zipIdx.map fun q=>(vk q.1,q.2):=by
 unfold vE;rw[Yi];rfl
theorem ai7{vs:List (ae×Int)}{l:List Value}(h:RL M (vs.map fun _=>AV.v (.bool true)) l):RL (fun _ _=>none) (vs.map fun _=>AV.v (.bool true)) l:=by
 refine⟨h.1,fun i h1 h2=> ?_⟩
 have:=h.2 i h1 h2
 simp only[Zj]at this ⊢
 rw[this.ay];exact .v _
theorem amh(w:World):(zeroValue 4).run prog w= .ok (.bool false) w:=by
 have h:(prog.info? 4).map (fun i=>i.zero)=some (some (.bool false)):=by kernel_rfl
 obtain⟨i,h1,h2⟩:=Z7.1 h
 simp[zeroValue,typeInfo,h1,h2]
theorem V0(w:World)(p:ae×Int){vs:List (ae×Int)}{l:List MapEntry}(h:l.map (fun e=>(e.key,e.born))=(vE vs).map (fun e=>(e.1,e.2.1)))(hv:RL M ((vE vs).map (·.2.2)) (l.map (·.val))):
  ∃ r,(Instr.findKey 135 (vk p) l).run prog w= .ok r w∧(p∈vs→∃ j,r=some (j,.bool true))∧(p∉vs→r=none):=by
 rw[alw]at h
 rw[aly]at hv
 obtain⟨r,h1,h2,h3⟩:=VZ w p vs l 0 0 h (ai7 hv)
 refine⟨r,?_,h2,h3⟩
 have hu:=underlying135
 simp only[Instr.findKey,Sem.run_bind,aZ hu,Result.andThen_ok]
 cases l with
 |nil=>
  simp only[Instr.findAsking,Sem.run_pure,Result.ok.injEq]at h1
  simp only[Instr.findNow,Sem.run_pure,h1.1]
 |cons e l=>
  have hN:∀ fs,Instr.findNow (.struct fs) (vk p) (e::l) 0=none:=fun _=>rfl
  rw[hN]
  exact h1
def nM(vs:List (ae×Int))(p:ae×Int):Bool:=vs.any fun q=>decide (q=p)
theorem JS{vs:List (ae×Int)}{p:ae×Int}:nM vs p=true↔p∈vs:=by
 unfold nM;rw[Ym];simp
theorem Tv{p:ae×Int}{v:Value}(h:R M (.agg [sv p.1,iv p.2]) v):v=vk p:=by
 cases h with
 |agg _ cs hl h=>
  match cs,hl,h with
  |[a,b],_,h=>
   have h0:=h 0 (by simp) (by simp)
   have h1:=h 1 (by simp) (by simp)
   simp only[YG,XZ]at h0 h1
   rw[h0.ay,h1.ay];rfl
theorem WM{tg b cG:Nat}{vs:List (ae×Int)}{t ty:TypeId}{q:TI}{m k:Operand}{p:ae×Int}(hl:aM σ tg=some (b,.map (vE vs) cG)):
  gb prog (.lookup t m k false) ty [.mp 135 4,q] [m,k] [.bH tg b,.agg [sv p.1,iv p.2]] σ fun y σ'=>y= .v (.bool (nM vs p))∧σ'=σ:=by
 intro bx M w0 w ρ hI hR
 simp only[eK,Z3,Zn]at bx
 have ht:=vJ bx.1
 obtain⟨v1,cP,e1,h1,cJ⟩:=hR.bg
 obtain⟨v2,e2,h2⟩:=cJ.cT
 subst e2
 simp only[ZE,Y4,Z3,Zn]at e1
 obtain⟨hM,l,hh,gq,iy⟩:=hI.rH hl
 have g1:=h1.qF
 have g2:=Tv h2
 subst g1 g2
 obtain⟨r,hr,ha,hb⟩:=V0 w p gq iy
 refine⟨.value (.bool (nM vs p)),w,M,.v (.bool (nM vs p)),.bool (nM vs p),σ,?_,rfl,Mem.le.refl _,hI,.v _,rfl,rfl⟩
 simp only[execOp,e1.1,e1.2,Instr.lookup,Sem.run_bind,aZ ht,Result.andThen_ok,getObj,Sem.run,hh,VU,hr,Sem.run_pure]
 by_cases hp:p∈vs
 ·obtain⟨j,rfl⟩:=ha hp
  simp[JS.2 hp]
 ·rw[hb hp]
  have:nM vs p=false:=by rw[← X6,JS];exact hp
  simp[this,amh]
theorem WO{tg b:Nat}{vs:List (ae×Int)}{t ty:TypeId}{q:TI}{m k x:Operand}{p:ae×Int}(hl:aM σ tg=some (b,.map (vE vs) vs.length))(hn:nM vs p=false):
  gb prog (.mapUpdate t m k x) ty [.mp 135 4,q] [m,k,x] [.bH tg b,.agg [sv p.1,iv p.2],.v (.bool true)] σ fun y σ'=>y= .v undef∧σ'=dx σ tg b (.map (vE (vs++[p])) (vs++[p]).length):=by
 intro bx M w0 w ρ hI hR
 simp only[eK,Z3,Zn]at bx
 have ht:=vJ bx.1
 obtain⟨v1,cP,e1,h1,cJ⟩:=hR.bg
 obtain⟨v2,qX,e2,h2,eA⟩:=cJ.bg
 obtain⟨v3,e3,h3⟩:=eA.cT
 subst e3 e2
 simp only[ZE,Y4,Z3,Zn]at e1
 obtain⟨hM,l,hh,gq,iy⟩:=hI.rH hl
 have g1:=h1.qF
 have g2:=Tv h2
 have g3:=h3.ay
 subst g1 g2 g3
 obtain⟨r,hr,ha,hb⟩:=V0 w p gq iy
 have hnp:p∉vs:=fun h=>by rw[JS.2 h]at hn;cases hn
 have hrn:=hb hnp
 subst hrn
 let w':World:={w with heap:=w.heap.setIfInBounds b (.map (l++[(⟨vk p,.bool true,vs.length⟩:MapEntry)]).toArray (vs.length+1))}
 have ar:b<w.heap.size:=(ZX.1 hh).1
 refine⟨.skip,w',M,.v undef,undef,_,?_,rfl,Mem.le.refl _,?_,.v _,rfl,rfl⟩
 ·have hu:l.toArray.push (⟨vk p,.bool true,vs.length⟩:MapEntry)=(l++[(⟨vk p,.bool true,vs.length⟩:MapEntry)]).toArray:=by apply YB;simp
  simp only[execOp,e1.1,e1.2.1,e1.2.2,Instr.mapUpdate,Sem.run_bind,aZ ht,Result.andThen_ok,getObj,Sem.run,hh,VU,hr,Sem.run_pure,setObj,hu]
  rfl
 ·rw[Z9,YZ,← alx]
  refine hI.AH (w':=w') (y:= .map (vE vs++[(vk p,vs.length,.v (.bool true))]) (vs.length+1)) hl (fun k hk=> ?_) rfl rfl rfl (by simp[w']) hM ⟨hM,l++[⟨vk p,.bool true,vs.length⟩],?_,?_,?_⟩
  ·simp only[w']
   rw[YP (fun e=>hk e.symm)]
  ·simp only[w']
   rw[X5 ar]
  ·simp[gq]
  ·simp only[Y7,ZE,Y4]
   exact RL.append iy (RL.cons (.v _) RL.nil)
end
section
variable {cfg:Nat→Nat}{K:af→Store→Prop}{E:List PanicEntry→Store→Prop}{σ σ':Store}{l:List CI}{d:Nat}{v:AV}{xr:XR}{ps:List Prop}{og:Option Bool}
theorem H9{t:TypeId}{q:TI}{ty:TypeId}{m k:Operand}{tg b b' cG:Nat}{vs:List (ae×Int)}{p:ae×Int}(h:aD xr none [m,k]=some (og,[.bH tg b,.agg [sv p.1,iv p.2]],ps))(hl:aM σ tg=some (b',.map (vE vs) cG))(hb:b=b')(aq:OB ps)
  (kk:VX prog cfg l K E ((d,.s (.v (.bool (nM vs p))))::xr) σ):VX prog cfg (⟨some d,.cQ (.lookup t m k false) ty [.mp 135 4,q] [m,k],none⟩::l) K E xr σ:=by
 obtain⟨hc,he⟩:=bZ h
 have cE:=ry h
 subst cE
 subst hb
 constructor
 simp only[dD,bY,al,he aq rfl]
 refine(WM hl).mono fun y s ⟨e1,e2⟩=> ?_
 subst e1 e2
 exact kk.h
theorem Ia{t:TypeId}{q:TI}{ty:TypeId}{m k x:Operand}{tg b b':Nat}{vs:List (ae×Int)}{p:ae×Int}(h:aD xr none [m,k,x]=some (og,[.bH tg b,.agg [sv p.1,iv p.2],.v (.bool true)],ps))(hl:aM σ tg=some (b',.map (vE vs) vs.length))(hb:b=b')(hn:nM vs p=false)(hu:vO σ tg b (.map (vE (vs++[p])) (vs++[p]).length)=some σ')(aq:OB ps)
  (kk:VX prog cfg l K E xr σ'):VX prog cfg (⟨none,.exts (.mapUpdate t m k x) ty [.mp 135 4,q] [m,k,x],none⟩::l) K E xr σ:=by
 obtain⟨hc,he⟩:=bZ h
 have cE:=ry h
 subst cE
 subst hb
 constructor
 simp only[dD,bY,al,he aq rfl]
 refine(WO hl hn).mono fun y s ⟨e1,e2⟩=> ?_
 rw[Dq hu]at e2
 subst e1 e2
 exact kk.h
end
end Go.Proofs.YtajimcniogfpcaaGreatDoor
set_option maxHeartbeats 16000000
namespace Go.Proofs.YtajimcniogfpcaaGreatDoor
open Go.Sx Go.Proofs Go.Tb
def kZ(C:az)(f:aj):Int:=
 if¬(Name f.name∧Name f.cN)∨f.version<0 then 3 else if ft f.type≠0 then ft f.type
 else if(nc C f.cN f.body).2≠0 then(nc C f.cN f.body).2 else(qP (nc C f.cN f.body).1 f.type).2
theorem Py(hT:lI)(hO:lH)(C:az)(f:aj)(hs:f.body.size≤100000):Pure Tryz.prog 31 [.agg C.cells,.agg f.cells] (iv (kZ C f)):=by
 have hI:=Ry hT hO C f.cN f.body hs
 unfold kZ
 generalize nc C f.cN f.body=r at *
 refine k31.p fun σ=> ?_
 repeat'(first|exact .nil|refine .k0 ?_|refine .k1 ?_|refine .k2 ?_|refine .k4 ?_|refine .k7 ?_|refine .k9 ?_|(refine .cd ?_ ?_<;>(intro hc;skip))|refine .r1 ?_ ?_|(refine .l1 ?_;intro b)|(refine .m1 ?_ ?_;intro b)|refine .an rfl (by intro aB;first|exact qD _|exact yq _|exact hI|exact Mm _ _) ?_ ?_|fail)
 try any_goals(exact Zo)
 all_goals(try simp only[BL]at *)
 all_goals
  refine Sx.Fin.intro Zs (bi ?_)
  grind
def jm(f:aj):Int:=if¬(Name f.name∧Name f.cN)∨f.version<1∨f.version>1099511627776 then 1 else if ft f.type≠0 then ft f.type else shape f.body
def jG(n:Nat)(p:Option ae)(s:ae):Prop:=match p with
 |none=>False
 |some q=>bL s q=true∨(n<2∧s=q)
instance (n:Nat)(p:Option ae)(s:ae):Decidable (jG n p s):=by unfold jG;split<;>infer_instance
def eM(n:Nat):Option ae→List aj→List (ae×Int)→Int×List (ae×Int)
 |_,[],vs=>(0,vs)
 |p,f::l,vs=>if jm f≠0 then(jm f,vs)else if jG n p f.name then(1,vs)else if nM vs (f.name,f.version)=true then(121,vs)else eM n (some f.name) l (vs++[(f.name,f.version)])
def LL(C:az)(n:Nat):List aj:=if n=0 then C.features else if n=1 then C.aT else C.past
def yu(C:az):Nat→Nat→List (ae×Int)→Int
 |0,_,_=>0
 |k+1,n,vs=>if(eM n none (LL C n) vs).1≠0 then(eM n none (LL C n) vs).1 else yu C k (n+1) (eM n none (LL C n) vs).2
def kP(C:az):Int:=yu C 3 0 []
def mj(l:List aj)(i:Nat):Option ae:=if i=0 then none else some (l.getD (i-1) default).name
theorem M8(n:Nat){l:List aj}{i:Nat}(hi:i<l.length)(vs:List (ae×Int)):eM n (mj l i) (l.drop i) vs=
  if jm (l.getD i default)≠0 then(jm (l.getD i default),vs)else if jG n (mj l i) (l.getD i default).name then(1,vs)else if nM vs ((l.getD i default).name,(l.getD i default).version)=true then(121,vs)else eM n (mj l (i+1)) (l.drop (i+1)) (vs++[((l.getD i default).name,(l.getD i default).version)]):=by
 have e:l.drop i=l.getD i default::l.drop (i+1):=by rw[getD_eq hi,Yc]
 rw[e,eM];rfl
theorem LJ{n:Nat}{l:List aj}{i:Nat}{s:ae}(hi:i≤maxLen):(0<(i:Int)∧(Op.bytesLess (ByteArray.toList s) (ByteArray.toList (l.getD (IntKind.i64.wrap ((i:Int)-1)).toNat default).name)=true∨(n:Int)<2∧s=(l.getD (IntKind.i64.wrap ((i:Int)-1)).toNat default).name))↔jG n (mj l i) s:=by
 unfold mj
 by_cases h0:i=0
 ·subst h0;rw[ZW rfl];unfold jG;simp
 ·rw[Z5 h0]
  have e:(IntKind.i64.wrap ((i:Int)-1)).toNat=i-1:=by unfold maxLen at hi;rw[eu (by omega)];omega
  rw[e]
  unfold jG bL
  simp only[]
  constructor
  ·rintro⟨_,h|⟨h,h'⟩⟩
   ·exact .inl h
   ·exact .inr ⟨by omega,h'⟩
  ·rintro(h|⟨h,h'⟩)
   ·exact⟨by omega,.inl h⟩
   ·exact⟨by omega,.inr ⟨by omega,h'⟩⟩
theorem alM(C:az)(hz:∀ n,∀ f∈LL C n,f.body.size≤100000):Pure Tryz.prog 30 [.agg C.cells] (iv (kP C)):=by
 refine Sg.p fun σ=> ?_
 repeat'(first|exact .nil|refine .k0 ?_|refine .k1 ?_|refine .k2 ?_|refine .k6 ?_|refine .r1 ?_ ?_|(refine .m1 ?_ ?_;intro b)|(refine .m3 ?_ ?_;intro hlen)|(refine .l3 ?_;intro b)|fail)
 all_goals(try simp only[BL]at *)
 ·show 3≤1000000;decide
 rename Nat=>b1
 refine bO (fun m rg σ'=>∃ (n:Nat) (vs:List (ae×Int)),n≤3∧m=3-n∧kP C=yu C (3-n) n vs∧σ'=(11,b1,.map (vE vs) vs.length)::σ∧rg=[(3,.bH 11 b1),(18,.sl true 1 [[.sl false 18 (C.features.map aj.cells)],[.sl false 18 (C.aT.map aj.cells)],[.sl false 18 (C.past.map aj.cells)]]),(19,iv (3:Nat)),(20,iv n)]) 3 rfl ⟨_,_,Zr,.same (.cons (.refl _)),0,[],by omega,rfl,rfl,rfl,rfl⟩ ?_
 rintro m _ _ ⟨n,vs,hn,hm,hv,rfl,rfl⟩
 have hn4:n=0∨n=1∨n=2∨n=3:=by omega
 rcases hn4 with rfl|rfl|rfl|rfl
 ·have iW:kP C=if(eM 0 none C.features vs).1≠0 then(eM 0 none C.features vs).1 else yu C 2 (0+1) (eM 0 none C.features vs).2:=hv
  have fz:∀ f∈C.features,f.body.size≤100000:=hz 0
  repeat'(first|exact .nil|refine .k0 ?_|refine .k1 ?_|refine .k2 ?_|refine .k6 ?_|refine .k7 ?_|refine .k8 ?_|refine .k9 ?_|(refine .cd ?_ ?_<;>(intro hc;skip))|refine .r1 ?_ ?_|(refine .m2 ?_ ?_;intro hlen)|refine .r8 ?_ ?_|fail)
  all_goals(try simp only[BL]at *)
  ·exact⟨trivial,by decide,by show _<((3:Nat):Int);decide⟩
  rotate_left
  ·exfalso;exact hc (by decide)
  refine bO (fun m rg σ'=>∃ (i:Nat) (cP:List (ae×Int)),i≤C.features.length∧m=C.features.length-i∧eM 0 none C.features vs=eM 0 (mj C.features i) (C.features.drop i) cP∧σ'=(11,b1,.map (vE cP) cP.length)::σ∧rg=[(3,.bH 11 b1),(4,iv (0:Nat)),(5,.sl false 18 (C.features.map aj.cells)),(18,.sl true 1 [[.sl false 18 (C.features.map aj.cells)],[.sl false 18 (C.aT.map aj.cells)],[.sl false 18 (C.past.map aj.cells)]]),(19,iv (3:Nat)),(20,iv (0:Nat)),(25,.sl false 18 (C.features.map aj.cells)),(26,iv C.features.length),(27,iv i)]) C.features.length rfl ⟨_,_,Zr,Zs,0,vs,ZL _,rfl,rfl,rfl,rfl⟩ ?_
  rintro m2 _ _ ⟨i,cP,hi,eT,hL,rfl,rfl⟩
  have hd:=fun(h:i<C.features.length)=>M8 0 h cP
  have BV:=fun(h:i<C.features.length)=>Db (C.features.getD i default).body (fz _ (dt h))
  have cD:i≤maxLen:=by omega
  have nS:=LJ (n:=0) (l:=C.features) (i:=i) (s:=(C.features.getD i default).name) cD
  have key:∀ e:Int,e≠0→eM 0 (mj C.features i) (C.features.drop i) cP=(e,cP)→kP C=e:=fun e h1 h2=>by
   rw[iW,hL,h2,ZW h1]
  repeat'(first|exact .nil|refine .k0 ?_|refine .k1 ?_|refine .k2 ?_|refine .k3 ?_|refine .k4 ?_|refine .k5 ?_|refine .k6 ?_|refine .k7 ?_|refine .k8 ?_|refine .k9 ?_|(refine .cd ?_ ?_<;>(intro hc;skip))|refine .r1 ?_ ?_|(refine .l1 ?_;intro b)|refine .t1 ?_ ?_ ?_|refine .an rfl (by intro aB;first|exact qD _|exact yq _|exact BV (by(simp only[BL]at *;omega))) ?_ ?_|fail)
  try any_goals(exact Zo)
  all_goals(try simp only[BL]at *)
  ·have ho:jm (C.features.getD i default)=1:=ZW (by grind)
   rw[key 1 (by decide) (by rw[hd (by omega),ho,ZW (by decide)])]
   exact Zw
  ·have ho:jm (C.features.getD i default)=ft (C.features.getD i default).type:=(Z5 (by grind)).trans (ZW hc)
   rw[key _ hc (by rw[hd (by omega),ho,ZW hc])]
   exact Zw
  ·have ho:jm (C.features.getD i default)=shape (C.features.getD i default).body:=(Z5 (by grind)).trans (Z5 (by grind))
   rw[key _ hc (by rw[hd (by omega),ho,ZW hc])]
   exact Zw
  ·have ho:jm (C.features.getD i default)=0:=(Z5 (by grind)).trans ((Z5 (by grind)).trans (by grind))
   rw[key 1 (by decide) (by rw[hd (by omega),ho,Z5 (by decide),ZW (nS.1 hc)])]
   exact Zw
  ·have ho:jm (C.features.getD i default)=0:=(Z5 (by grind)).trans ((Z5 (by grind)).trans (by grind))
   have qt:¬jG 0 (mj C.features i) (C.features.getD i default).name:=fun h=>by
    have h2:=nS.2 h
    rcases hc with hc|⟨cq,c8⟩
    ·exact hc h2.1
    ·rcases h2.2 with h3|h3
     ·rw[cq]at h3;cases h3
     ·rcases c8 with h4|h4
      ·exact h4 h3.1
      ·exact h4 h3.2
   refine H9 (p:=((C.features.getD i default).name,(C.features.getD i default).version)) rfl rfl rfl OB.nil ?_
   repeat'(first|exact .nil|refine .k0 ?_|refine .k1 ?_|refine .k2 ?_|refine .k7 ?_|refine .k9 ?_|(refine .cd ?_ ?_<;>(intro hc;skip))|refine .r1 ?_ ?_|fail)
   all_goals(try simp only[BL]at *)
   ·rw[key 121 (by decide) (by rw[hd (by omega),ho,Z5 (by decide),Z5 qt,ZW hc])]
    exact Zw
   ·refine Ia (p:=((C.features.getD i default).name,(C.features.getD i default).version)) rfl rfl rfl hc rfl OB.nil ?_
    repeat'(first|exact .nil|refine .k0 ?_|refine .k1 ?_|refine .k2 ?_|refine .r1 ?_ ?_|fail)
    all_goals(try simp only[BL]at *)
    refine⟨m2-1,by omega,_,_,Zr,Zs,i+1,_,by omega,by omega,?_,rfl,by rw[cu (n:=C.features.length) (by omega) (by assumption)]⟩
    rw[hL,hd (by omega),ho,Z5 (by decide),Z5 qt,Z5 (by rw[hc];decide)]
  ·intro h;unfold maxLen at cD;rw[eu (by omega)];omega
  ·intro h;unfold maxLen at cD;rw[eu (by omega)];omega
  ·have Ck:i=C.features.length:=by omega
   subst Ck
   rw[Yg,eM]at hL
   refine⟨2-0,by omega,_,_,Zr,Zs,0+1,cP,by omega,by omega,?_,rfl,by rw[cu (n:=5) (by omega) (by decide)]⟩
   rw[iW,hL,Z5 (by simp)]
 ·have iW:kP C=if(eM 1 none C.aT vs).1≠0 then(eM 1 none C.aT vs).1 else yu C 1 (1+1) (eM 1 none C.aT vs).2:=hv
  have fz:∀ f∈C.aT,f.body.size≤100000:=hz 1
  repeat'(first|exact .nil|refine .k0 ?_|refine .k1 ?_|refine .k2 ?_|refine .k6 ?_|refine .k7 ?_|refine .k8 ?_|refine .k9 ?_|(refine .cd ?_ ?_<;>(intro hc;skip))|refine .r1 ?_ ?_|(refine .m2 ?_ ?_;intro hlen)|refine .r8 ?_ ?_|fail)
  all_goals(try simp only[BL]at *)
  ·exact⟨trivial,by decide,by show _<((3:Nat):Int);decide⟩
  rotate_left
  ·exfalso;exact hc (by decide)
  refine bO (fun m rg σ'=>∃ (i:Nat) (cP:List (ae×Int)),i≤C.aT.length∧m=C.aT.length-i∧eM 1 none C.aT vs=eM 1 (mj C.aT i) (C.aT.drop i) cP∧σ'=(11,b1,.map (vE cP) cP.length)::σ∧rg=[(3,.bH 11 b1),(4,iv (1:Nat)),(5,.sl false 18 (C.aT.map aj.cells)),(18,.sl true 1 [[.sl false 18 (C.features.map aj.cells)],[.sl false 18 (C.aT.map aj.cells)],[.sl false 18 (C.past.map aj.cells)]]),(19,iv (3:Nat)),(20,iv (1:Nat)),(25,.sl false 18 (C.aT.map aj.cells)),(26,iv C.aT.length),(27,iv i)]) C.aT.length rfl ⟨_,_,Zr,Zs,0,vs,ZL _,rfl,rfl,rfl,rfl⟩ ?_
  rintro m2 _ _ ⟨i,cP,hi,eT,hL,rfl,rfl⟩
  have hd:=fun(h:i<C.aT.length)=>M8 1 h cP
  have BV:=fun(h:i<C.aT.length)=>Db (C.aT.getD i default).body (fz _ (dt h))
  have cD:i≤maxLen:=by omega
  have nS:=LJ (n:=1) (l:=C.aT) (i:=i) (s:=(C.aT.getD i default).name) cD
  have key:∀ e:Int,e≠0→eM 1 (mj C.aT i) (C.aT.drop i) cP=(e,cP)→kP C=e:=fun e h1 h2=>by
   rw[iW,hL,h2,ZW h1]
  repeat'(first|exact .nil|refine .k0 ?_|refine .k1 ?_|refine .k2 ?_|refine .k3 ?_|refine .k4 ?_|refine .k5 ?_|refine .k6 ?_|refine .k7 ?_|refine .k8 ?_|refine .k9 ?_|(refine .cd ?_ ?_<;>(intro hc;skip))|refine .r1 ?_ ?_|(refine .l1 ?_;intro b)|refine .t1 ?_ ?_ ?_|refine .an rfl (by intro aB;first|exact qD _|exact yq _|exact BV (by(simp only[BL]at *;omega))) ?_ ?_|fail)
  try any_goals(exact Zo)
  all_goals(try simp only[BL]at *)
  ·have ho:jm (C.aT.getD i default)=1:=ZW (by grind)
   rw[key 1 (by decide) (by rw[hd (by omega),ho,ZW (by decide)])]
   exact Zw
  ·have ho:jm (C.aT.getD i default)=ft (C.aT.getD i default).type:=(Z5 (by grind)).trans (ZW hc)
   rw[key _ hc (by rw[hd (by omega),ho,ZW hc])]
   exact Zw
  ·have ho:jm (C.aT.getD i default)=shape (C.aT.getD i default).body:=(Z5 (by grind)).trans (Z5 (by grind))
   rw[key _ hc (by rw[hd (by omega),ho,ZW hc])]
   exact Zw
  ·have ho:jm (C.aT.getD i default)=0:=(Z5 (by grind)).trans ((Z5 (by grind)).trans (by grind))
   rw[key 1 (by decide) (by rw[hd (by omega),ho,Z5 (by decide),ZW (nS.1 hc)])]
   exact Zw
  ·have ho:jm (C.aT.getD i default)=0:=(Z5 (by grind)).trans ((Z5 (by grind)).trans (by grind))
   have qt:¬jG 1 (mj C.aT i) (C.aT.getD i default).name:=fun h=>by
    have h2:=nS.2 h
    rcases hc with hc|⟨cq,c8⟩
    ·exact hc h2.1
    ·rcases h2.2 with h3|h3
     ·rw[cq]at h3;cases h3
     ·rcases c8 with h4|h4
      ·exact h4 h3.1
      ·exact h4 h3.2
   refine H9 (p:=((C.aT.getD i default).name,(C.aT.getD i default).version)) rfl rfl rfl OB.nil ?_
   repeat'(first|exact .nil|refine .k0 ?_|refine .k1 ?_|refine .k2 ?_|refine .k7 ?_|refine .k9 ?_|(refine .cd ?_ ?_<;>(intro hc;skip))|refine .r1 ?_ ?_|fail)
   all_goals(try simp only[BL]at *)
   ·rw[key 121 (by decide) (by rw[hd (by omega),ho,Z5 (by decide),Z5 qt,ZW hc])]
    exact Zw
   ·refine Ia (p:=((C.aT.getD i default).name,(C.aT.getD i default).version)) rfl rfl rfl hc rfl OB.nil ?_
    repeat'(first|exact .nil|refine .k0 ?_|refine .k1 ?_|refine .k2 ?_|refine .r1 ?_ ?_|fail)
    all_goals(try simp only[BL]at *)
    refine⟨m2-1,by omega,_,_,Zr,Zs,i+1,_,by omega,by omega,?_,rfl,by rw[cu (n:=C.aT.length) (by omega) (by assumption)]⟩
    rw[hL,hd (by omega),ho,Z5 (by decide),Z5 qt,Z5 (by rw[hc];decide)]
  ·intro h;unfold maxLen at cD;rw[eu (by omega)];omega
  ·intro h;unfold maxLen at cD;rw[eu (by omega)];omega
  ·have Ck:i=C.aT.length:=by omega
   subst Ck
   rw[Yg,eM]at hL
   refine⟨2-1,by omega,_,_,Zr,Zs,1+1,cP,by omega,by omega,?_,rfl,by rw[cu (n:=5) (by omega) (by decide)]⟩
   rw[iW,hL,Z5 (by simp)]
 ·have iW:kP C=if(eM 2 none C.past vs).1≠0 then(eM 2 none C.past vs).1 else yu C 0 (2+1) (eM 2 none C.past vs).2:=hv
  have fz:∀ f∈C.past,f.body.size≤100000:=hz 2
  repeat'(first|exact .nil|refine .k0 ?_|refine .k1 ?_|refine .k2 ?_|refine .k6 ?_|refine .k7 ?_|refine .k8 ?_|refine .k9 ?_|(refine .cd ?_ ?_<;>(intro hc;skip))|refine .r1 ?_ ?_|(refine .m2 ?_ ?_;intro hlen)|refine .r8 ?_ ?_|fail)
  all_goals(try simp only[BL]at *)
  ·exact⟨trivial,by decide,by show _<((3:Nat):Int);decide⟩
  rotate_left
  ·exfalso;exact hc (by decide)
  refine bO (fun m rg σ'=>∃ (i:Nat) (cP:List (ae×Int)),i≤C.past.length∧m=C.past.length-i∧eM 2 none C.past vs=eM 2 (mj C.past i) (C.past.drop i) cP∧σ'=(11,b1,.map (vE cP) cP.length)::σ∧rg=[(3,.bH 11 b1),(4,iv (2:Nat)),(5,.sl false 18 (C.past.map aj.cells)),(18,.sl true 1 [[.sl false 18 (C.features.map aj.cells)],[.sl false 18 (C.aT.map aj.cells)],[.sl false 18 (C.past.map aj.cells)]]),(19,iv (3:Nat)),(20,iv (2:Nat)),(25,.sl false 18 (C.past.map aj.cells)),(26,iv C.past.length),(27,iv i)]) C.past.length rfl ⟨_,_,Zr,Zs,0,vs,ZL _,rfl,rfl,rfl,rfl⟩ ?_
  rintro m2 _ _ ⟨i,cP,hi,eT,hL,rfl,rfl⟩
  have hd:=fun(h:i<C.past.length)=>M8 2 h cP
  have BV:=fun(h:i<C.past.length)=>Db (C.past.getD i default).body (fz _ (dt h))
  have cD:i≤maxLen:=by omega
  have nS:=LJ (n:=2) (l:=C.past) (i:=i) (s:=(C.past.getD i default).name) cD
  have key:∀ e:Int,e≠0→eM 2 (mj C.past i) (C.past.drop i) cP=(e,cP)→kP C=e:=fun e h1 h2=>by
   rw[iW,hL,h2,ZW h1]
  repeat'(first|exact .nil|refine .k0 ?_|refine .k1 ?_|refine .k2 ?_|refine .k3 ?_|refine .k4 ?_|refine .k5 ?_|refine .k6 ?_|refine .k7 ?_|refine .k8 ?_|refine .k9 ?_|(refine .cd ?_ ?_<;>(intro hc;skip))|refine .r1 ?_ ?_|(refine .l1 ?_;intro b)|refine .t1 ?_ ?_ ?_|refine .an rfl (by intro aB;first|exact qD _|exact yq _|exact BV (by(simp only[BL]at *;omega))) ?_ ?_|fail)
  try any_goals(exact Zo)
  all_goals(try simp only[BL]at *)
  ·have ho:jm (C.past.getD i default)=1:=ZW (by grind)
   rw[key 1 (by decide) (by rw[hd (by omega),ho,ZW (by decide)])]
   exact Zw
  ·have ho:jm (C.past.getD i default)=ft (C.past.getD i default).type:=(Z5 (by grind)).trans (ZW hc)
   rw[key _ hc (by rw[hd (by omega),ho,ZW hc])]
   exact Zw
  ·have ho:jm (C.past.getD i default)=shape (C.past.getD i default).body:=(Z5 (by grind)).trans (Z5 (by grind))
   rw[key _ hc (by rw[hd (by omega),ho,ZW hc])]
   exact Zw
  ·have ho:jm (C.past.getD i default)=0:=(Z5 (by grind)).trans ((Z5 (by grind)).trans (by grind))
   rw[key 1 (by decide) (by rw[hd (by omega),ho,Z5 (by decide),ZW (nS.1 hc)])]
   exact Zw
  ·have ho:jm (C.past.getD i default)=0:=(Z5 (by grind)).trans ((Z5 (by grind)).trans (by grind))
   have qt:¬jG 2 (mj C.past i) (C.past.getD i default).name:=fun h=>by
    have h2:=nS.2 h
    rcases hc with hc|⟨cq,c8⟩
    ·exact hc h2.1
    ·rcases h2.2 with h3|h3
     ·rw[cq]at h3;cases h3
     ·rcases c8 with h4|h4
      ·exact h4 h3.1
      ·exact h4 h3.2
   refine H9 (p:=((C.past.getD i default).name,(C.past.getD i default).version)) rfl rfl rfl OB.nil ?_
   repeat'(first|exact .nil|refine .k0 ?_|refine .k1 ?_|refine .k2 ?_|refine .k7 ?_|refine .k9 ?_|(refine .cd ?_ ?_<;>(intro hc;skip))|refine .r1 ?_ ?_|fail)
   all_goals(try simp only[BL]at *)
   ·rw[key 121 (by decide) (by rw[hd (by omega),ho,Z5 (by decide),Z5 qt,ZW hc])]
    exact Zw
   ·refine Ia (p:=((C.past.getD i default).name,(C.past.getD i default).version)) rfl rfl rfl hc rfl OB.nil ?_
    repeat'(first|exact .nil|refine .k0 ?_|refine .k1 ?_|refine .k2 ?_|refine .r1 ?_ ?_|fail)
    all_goals(try simp only[BL]at *)
    refine⟨m2-1,by omega,_,_,Zr,Zs,i+1,_,by omega,by omega,?_,rfl,by rw[cu (n:=C.past.length) (by omega) (by assumption)]⟩
    rw[hL,hd (by omega),ho,Z5 (by decide),Z5 qt,Z5 (by rw[hc];decide)]
  ·intro h;unfold maxLen at cD;rw[eu (by omega)];omega
  ·have Ck:i=C.past.length:=by omega
   subst Ck
   rw[Yg,eM]at hL
   refine⟨2-2,by omega,_,_,Zr,Zs,2+1,cP,by omega,by omega,?_,rfl,by rw[cu (n:=5) (by omega) (by decide)]⟩
   rw[iW,hL,Z5 (by simp)]
 ·repeat'(first|exact .nil|refine .k0 ?_|refine .k1 ?_|refine .k2 ?_|refine .k6 ?_|refine .k7 ?_|refine .k8 ?_|refine .k9 ?_|(refine .cd ?_ ?_<;>(intro hc;skip))|refine .r1 ?_ ?_|refine .r8 ?_ ?_|fail)
  all_goals(try simp only[BL]at *)
  all_goals first|(exfalso;exact absurd hc (by decide))|skip
  rw[hv]
  exact Zw
def bK:Option ae→List aI→Int
 |_,[]=>0
 |p,t::l=>if kh t≠0 then kh t else if jG 0 p t.name then 1 else bK (some t.name) l
def lN(C:az):List aj→Int
 |[]=>0
 |f::l=>if kZ C f≠0 then kZ C f else lN C l
open Classical in
noncomputable def jw(C:az):Int:=
 if C.tables.length>16∨C.features.length>32∨C.aT.length>32∨C.past.length>32 then 2
 else if bK none C.tables≠0 then bK none C.tables
 else if kP C≠0 then kP C
 else if lN C C.features≠0 then lN C C.features
 else if iF (deps C.features) (aL C.features)≠[]then 120 else 0
def x7(l:List aI)(i:Nat):Option ae:=if i=0 then none else some (l.getD (i-1) default).name
theorem aic{l:List aI}{i:Nat}{s:ae}(hi:i≤maxLen):(0<(i:Int)∧(Op.bytesLess (ByteArray.toList s) (ByteArray.toList (l.getD (IntKind.i64.wrap ((i:Int)-1)).toNat default).name)=true∨s=(l.getD (IntKind.i64.wrap ((i:Int)-1)).toNat default).name))↔jG 0 (x7 l i) s:=by
 unfold x7
 by_cases h0:i=0
 ·subst h0;rw[ZW rfl];unfold jG;simp
 ·rw[Z5 h0]
  have e:(IntKind.i64.wrap ((i:Int)-1)).toNat=i-1:=by unfold maxLen at hi;rw[eu (by omega)];omega
  rw[e]
  unfold jG bL
  simp only[]
  constructor
  ·rintro⟨_,h|h'⟩
   ·exact .inl h
   ·exact .inr ⟨by omega,h'⟩
  ·rintro(h|⟨h,h'⟩)
   ·exact⟨by omega,.inl h⟩
   ·exact⟨by omega,.inr h'⟩
theorem MI{l:List aI}{i:Nat}(hi:i<l.length):bK (x7 l i) (l.drop i)=if kh (l.getD i default)≠0 then kh (l.getD i default)else if jG 0 (x7 l i) (l.getD i default).name then 1 else bK (x7 l (i+1)) (l.drop (i+1)):=by
 have e:l.drop i=l.getD i default::l.drop (i+1):=by rw[getD_eq hi,Yc]
 rw[e,bK];rfl
theorem Pv(C:az){l:List aj}{i:Nat}(hi:i<l.length):lN C (l.drop i)=if kZ C (l.getD i default)≠0 then kZ C (l.getD i default)else lN C (l.drop (i+1)):=by
 have e:l.drop i=l.getD i default::l.drop (i+1):=by rw[getD_eq hi,Yc]
 rw[e,lN]
theorem Dd:∀ {l:List Ex} {x:Ex},x∈l→x.size≤Ex.cM l
 |y::l,x,h=>by
  rw[Ex.cM]
  rcases ZT.1 h with rfl|h
  ·omega
  ·have:=Dd h;omega
theorem Nv{C:az}{n:Nat}{f:aj}(hf:f∈LL C n):f∈C.all:=by
 unfold LL at hf;unfold az.all
 split at hf
 ·exact ZI _ (ZI _ hf)
 ·split at hf
  ·exact ZI _ (Zp _ hf)
  ·exact Zp _ hf
theorem IE(hT:lI)(hO:lH)(C:az)(hz:∀ f∈C.all,f.body.size≤100000)(hf0:q6 C.features)(ht:C.tables.length≤100000):Pure Tryz.prog 9 [.agg C.cells] (iv (jw C)):=by
 have hV:=alM C (fun n f hf=>hz f (Nv hf))
 have uv:=fun(i:Nat) (h:i<C.features.length)=>Py hT hO C (C.features.getD i default) (hz _ (Nv (n:=0) (show C.features.getD i default∈LL C 0 from dt h)))
 have hY:=D8 C hf0
 unfold jw
 generalize iF (deps C.features) (aL C.features)=Y at *
 generalize kP C=ve at *
 refine k9.p fun σ=> ?_
 repeat'(first|exact .nil|refine .k0 ?_|refine .k1 ?_|refine .k2 ?_|refine .k4 ?_|refine .k6 ?_|refine .k7 ?_|refine .k9 ?_|(refine .cd ?_ ?_<;>(intro hc;skip))|refine .r1 ?_ ?_|(refine .m1 ?_ ?_;intro b)|(refine .m2 ?_ ?_;intro hlen)|fail)
 try any_goals(exact Zo)
 all_goals(try simp only[BL]at *)
 ·rw[ZW (by omega)];exact Zw
 rw[Z5 (by omega)]
 rename Nat=>b1
 refine bO (fun m rg σ'=>∃ i:Nat,i≤C.tables.length∧m=C.tables.length-i∧bK none C.tables=bK (x7 C.tables i) (C.tables.drop i)∧σ'=(1,b1,.cells C.cells)::σ∧rg=[(1,.lp 1 b1 0),(33,.sl false 4 (C.tables.map aI.cells)),(34,iv C.tables.length),(35,iv i)]) C.tables.length rfl ⟨_,_,Zr,Zs,0,ZL _,rfl,rfl,rfl,rfl⟩ ?_
 rintro m _ _ ⟨i,hi,hm,hL,rfl,rfl⟩
 have cD:i≤maxLen:=by unfold maxLen;omega
 have nS:=aic (l:=C.tables) (i:=i) (s:=(C.tables.getD i default).name) cD
 repeat'(first|exact .nil|refine .k0 ?_|refine .k1 ?_|refine .k2 ?_|refine .k3 ?_|refine .k4 ?_|refine .k5 ?_|refine .k6 ?_|refine .k7 ?_|refine .k8 ?_|refine .k9 ?_|(refine .cd ?_ ?_<;>(intro hc;skip))|refine .r1 ?_ ?_|(refine .l1 ?_;intro b)|(refine .m2 ?_ ?_;intro hlen)|refine .t1 ?_ ?_ ?_|refine .an rfl (by intro aB;first|exact Vg _|exact hV|fail) ?_ ?_|fail)
 try any_goals(exact Zo)
 all_goals(try simp only[BL]at *)
 ·rw[show bK none C.tables=kh (C.tables.getD i default) by rw[hL,MI (by omega),ZW hc],ZW hc];exact Zw
 ·rw[show bK none C.tables=1 by rw[hL,MI (by omega),Z5 (by grind),ZW (nS.1 hc)],ZW (by decide)];exact Zw
 ·have qt:¬jG 0 (x7 C.tables i) (C.tables.getD i default).name:=fun h=>by
   have h2:=nS.2 h
   rcases hc with hc|⟨cq,c8⟩
   ·exact hc h2.1
   ·rcases h2.2 with h3|h3
    ·rw[cq]at h3;cases h3
    ·exact c8 h3
  exact⟨m-1,by omega,_,_,Zr,Zs,i+1,by omega,by omega,by rw[hL,MI (by omega),Z5 (by grind),Z5 qt],rfl,by rw[cu (n:=C.tables.length) (by omega) (by assumption)]⟩
 ·intro h;unfold maxLen at cD;rw[eu (by omega)];omega
 ·have h0:bK none C.tables=0:=by rw[hL,show i=C.tables.length by omega,Yg,bK]
  rw[h0,Z5 (by simp),ZW hc];exact Zw
 have h0:bK none C.tables=0:=by rw[hL,show i=C.tables.length by omega,Yg,bK]
 rw[h0,Z5 (by simp),Z5 (by grind)]
 clear nS cD hL hm hi
 refine bO (fun m rg σ'=>∃ i:Nat,i≤C.features.length∧m=C.features.length-i∧lN C C.features=lN C (C.features.drop i)∧σ'=(1,b1,.cells C.cells)::σ∧rg=[(1,.lp 1 b1 0),(66,.sl false 18 (C.features.map aj.cells)),(67,iv C.features.length),(68,iv i)]) C.features.length rfl ⟨_,_,Zr,Zs,0,ZL _,rfl,rfl,rfl,rfl⟩ ?_
 rintro m _ _ ⟨i,hi,hm,hL,rfl,rfl⟩
 have hF:=uv i
 have hY1:Y.length=0↔Y=[]:=X3
 repeat'(first|exact .nil|refine .k0 ?_|refine .k1 ?_|refine .k2 ?_|refine .k6 ?_|refine .k7 ?_|refine .k8 ?_|refine .k9 ?_|(refine .cd ?_ ?_<;>(intro hc;skip))|refine .r1 ?_ ?_|(refine .l1 ?_;intro b)|(refine .m2 ?_ ?_;intro hlen)|refine .t1 ?_ ?_ ?_|refine .an rfl (by intro aB;first|exact hF (by(simp only[BL]at *;omega))|exact hY) ?_ ?_|fail)
 try any_goals(exact Zo)
 all_goals(try simp only[BL]at *)
 ·rw[show lN C C.features=kZ C (C.features.getD i default) by rw[hL,Pv C (by omega),ZW hc],ZW hc];exact Zw
 ·exact⟨m-1,by omega,_,_,Zr,Zs,i+1,by omega,by omega,by rw[hL,Pv C (by omega),Z5 (by grind)],rfl,by rw[cu (n:=C.features.length) (by omega) (by assumption)]⟩
 all_goals have h1:lN C C.features=0:=by rw[hL,show i=C.features.length by omega,Yg,lN]
 all_goals rw[h1,Z5 (by simp)]
 ·rw[ZW (fun h=>by subst h;simp at hc)];exact Zw
 ·rw[Z5 (fun h=>h (hY1.1 (by omega)))];exact Zw
end Go.Proofs.YtajimcniogfpcaaGreatDoor
