/- The layer: a box that is not written any more becomes a known block. -/
import Derived.Test.YtomhopcnkicknaaGreatDoorGa
import Derived.Test.YtomhopcnkicknaaGreatDoorFb
import Derived.Test.YtomhopcnkicknaaGreatDoorEa
set_option linter.unusedSimpArgs false
set_option linter.unusedVariables false
set_option linter.unusedSectionVars false
namespace Go.Sx
open Go.RowKit Go.Proofs
inductive po(t b:Nat)(xs:List AV):Store→Store→Prop
 |here {σ:Store}:po t b xs ((t,b,.cells xs)::σ) σ
 |there {e:Nat×Nat×aG} {σ af:Store} (h:po t b xs σ af):po t b xs (e::σ) (e::af)
theorem po.perm{t b:Nat}{xs:List AV}{σ af:Store}(h:po t b xs σ af):List.Perm σ ((t,b,.cells xs)::af):=by
 induction h with
 |here=>simp_all
 |there _ ih=>exact(ih.cons _).trans (.swap _ _ _)
inductive mN(b:Nat)(xs:List AV):ah→ah→Prop
 |nil:mN b xs [] []
 |p0 {i t:Nat} {r r':ah} (h:mN b xs r r'):mN b xs ((i,.lp t b 0)::r) ((i,.pc xs)::r')
 |pt {i t o:Nat} {r r':ah} (h:mN b xs r r'):mN b xs ((i,.lp t b o)::r) ((i,.pc (xs.drop o))::r')
 |same {i:Nat} {x:AV} {r r':ah} (h:mN b xs r r'):mN b xs ((i,x)::r) ((i,x)::r')
theorem mN.lk{b:Nat}{xs:List AV}{r r':ah}(h:mN b xs r r')(i:Nat):lk r' i=lk r i∨∃ t o,lk r i= .lp t b o∧lk r' i= .pc (xs.drop o):=by
 induction h with
 |nil=>exact .inl rfl
 | @p0 j t _ _ _ ih=>
  simp only[Sx.lk]
  cases Nat.beq j i with
  |true=>exact .inr ⟨t,0,rfl,rfl⟩
  |false=>exact ih
 | @pt j t o _ _ _ ih=>
  simp only[Sx.lk]
  cases Nat.beq j i with
  |true=>exact .inr ⟨t,o,rfl,rfl⟩
  |false=>exact ih
 | @same j x _ _ _ ih=>
  simp only[Sx.lk]
  cases Nat.beq j i with
  |true=>exact .inl rfl
  |false=>exact ih
section
variable {P:Program}[Glob P]{M:Mem}{w0:Base}{w:World}{σ:Store}
theorem RL.pc{b o:Nat}{xs:List AV}{vs:List Value}(hR:RL M xs vs)(hc:∀ k (h:k<vs.length),M b k=some vs[k]):R M (.pc (xs.drop o)) (.pointer (some ⟨b,o,none⟩)):=by
 refine .pc _ b o (fun k=>vs.getD (o+k) default) (fun k hk=> ?_) (fun k hk=> ?_)
 ·have cN:o+k<vs.length:=by rw[← hR.1];simp at hk;omega
  rw[hc _ cN,ZY,ZX cN];rfl
 ·have pP:o+k<xs.length:=by simp at hk;omega
  have cN:o+k<vs.length:=by rw[← hR.1];exact pP
  rw[List.getElem_drop,ZY,ZX cN]
  exact hR.2 _ pP cN
end
theorem SW.Fl{P:Program}[Glob P]{N:Nat}{s:SC}{Q:Exit→ah→Store→Prop}{rg ay:ah}{σ af:Store}{t b:Nat}{xs:List AV}(hs:po t b xs σ af)(hr:mN b xs rg ay)(h:SW P N s Q ay af):SW P N s Q rg σ:=by
 intro c hc M w0 a w hI hR hN hD
 obtain⟨M',vs,hM,aS,fm,hcell⟩:=(hI.perm hs.perm).freeze
 refine xX (h c hc M' w0 a w aS (fun i=> ?_) hN hD) fun _ _ _ ⟨M2,dA,bE,h1,h2⟩=>⟨M2,dA,bE,hM.trans h1,h2⟩
 have h1:=(hR i).mono hM
 rcases hr.lk i with e|⟨t',o,e1,e2⟩
 ·rw[e];exact h1
 ·rw[e1]at h1
  rw[e2]
  have h2:=h1.nI
  rw[h2]
  exact RL.pc fm hcell
theorem sF{P:Program}[Glob P]{N:Nat}{cfg:Nat→Nat}{Q:Exit→ah→Store→Prop}{a:AC}{k:List Fr}{rg ay:ah}{σ af:Store}(t b:Nat){xs:List AV}(hs:po t b xs σ af)(hr:mN b xs rg ay)(h:WK P N cfg Q a k ay af):WK P N cfg Q a k rg σ:=⟨⟨rfl,SW.Fl hs hr h.h.h⟩⟩
end Go.Sx
set_option maxRecDepth 100000
set_option maxHeartbeats 4000000
namespace Go.Proofs.YtomhopcnkicknaaGreatDoor
open _root_.Go.Proofs.Tryz
open Go.Sx Go.Proofs Go.Tb
def cC:Ty:=⟨0,[],s0⟩
abbrev eF(t:Ty×Int):AV:= .aE [.agg t.1.cells,iv t.2]
abbrev eI(c:az)(jK:ae)(fld:AV):List AV:=[.sl false 4 (c.tables.map aP.cells),.sl false 18 (c.features.map aj.cells),.sl false 18 (c.bn.map aj.cells),.sl false 18 (c.past.map aj.cells),sv jK,fld]
theorem jl(e:Int):Pure prog 97 [iv e] (eF (cC,e)):=by
 refine k97.p fun σ=> ?_
 repeat'(first|exact .nil|refine .k0 ?_|refine .k1 ?_|refine .k2 ?_|refine .k7 ?_|refine .r1 ?_ ?_|(refine .l1 ?_;intro b)|fail)
 all_goals(try simp only[BL]at *)
 exact Zw
def nP(a b:Ty):Ty×Int:=if a.kind≠b.kind∨a.of≠b.of then(cC,5)else if a.unit≠b.unit then(cC,70)else(a,0)
theorem Ro(a b:List ar):Pure prog 99 [.sl false 2 (a.map ar.cells),.sl false 2 (b.map ar.cells)] (.v (.bool (decide (a=b)))):=by
 refine k99.p fun σ=> ?_
 repeat'(first|exact .nil|refine .k0 ?_|refine .k1 ?_|refine .k2 ?_|refine .k7 ?_|refine .r1 ?_ ?_|refine .an rfl (by intro aq;exact Ls _ _) ?_ ?_|fail)
 all_goals(try simp only[BL]at *)
 exact Zw
theorem Iz(x y:Ty):Pure prog 64 [.agg x.cells,.agg y.cells] (eF (nP x y)):=by
 refine k64.p fun σ=> ?_
 repeat'(first|exact .nil|refine .k0 ?_|refine .k1 ?_|refine .k2 ?_|refine .k4 ?_|refine .k7 ?_|refine .k9 ?_|(refine .cd ?_ ?_<;>(intro hc;skip))|refine .r1 ?_ ?_|(refine .l1 ?_;intro b)|(refine .m1 ?_ ?_;intro b)|refine .an rfl (by intro aq;first|exact Ro _ _|exact jl _) ?_ ?_|fail)
 try any_goals(exact Zo)
 all_goals(try simp only[BL]at *)
 ·rw[show nP x y=(cC,5)from Z3 (by simpa using hc)];exact Zw
 ·rw[show nP x y=(cC,70)from(Z6 (by grind)).trans (Z3 hc)];exact Zw
 ·rw[show nP x y=(x,0)from(Z6 (by grind)).trans (Z6 (by grind))];exact Zw
theorem agy(x:aj)(n:ae):Pure prog 239 [.agg x.cells,.pc [sv n]] (.v (.bool (decide (x.name=n)))):=by
 refine afs.p fun σ=> ?_
 repeat'(first|exact .nil|refine .k0 ?_|refine .k1 ?_|refine .k2 ?_|refine .k7 ?_|refine .r1 ?_ ?_|(refine .m1 ?_ ?_;intro b)|fail)
 all_goals(try simp only[BL]at *)
 ·exact Sx.Fin.intro Zs rfl
theorem ads(fs:List aj)(n:ae):Pure prog 136 [.sl false 18 (fs.map aj.cells),.cl 239 [] [.pc [sv n]]] (iv (firstIdx (fun x=>decide (x.name=n)) fs 0)):=by
 refine aek.p fun σ=> ?_
 repeat'(first|exact .nil|refine .k0 ?_|refine .k1 ?_|refine .k2 ?_|refine .k6 ?_|refine .r1 ?_ ?_|(refine .m2 ?_ ?_;intro hlen)|fail)
 all_goals(try simp only[BL]at *)
 refine aH (fun m rg af=>∃ i:Nat,i≤fs.length∧m=fs.length-i∧(∀ j,j<i→¬(fs.getD j default).name=n)∧af=σ∧rg=[(0,.sl false 18 (fs.map aj.cells)),(1,.cl 239 [] [.pc [sv n]]),(7,iv fs.length),(8,iv i)]) fs.length rfl ⟨_,_,Zr,Zs,0,Z1 _,rfl,fun j hj=>absurd hj (by omega),rfl,rfl⟩ ?_
 rintro m _ _ ⟨i,hi,hn,hp,rfl,rfl⟩
 repeat'(first|exact .nil|refine .k0 ?_|refine .k1 ?_|refine .k2 ?_|refine .k6 ?_|refine .k7 ?_|refine .k8 ?_|refine .k9 ?_|(refine .cd ?_ ?_<;>(intro hc;skip))|refine .r1 ?_ ?_|refine .t1 ?_ ?_ ?_|refine .an rfl (by intro aq;exact agy _ _) ?_ ?_|fail)
 try any_goals(exact Zo)
 all_goals(try simp only[BL]at *)
 ·rw[q7 (p:=fun x:aj=>decide (x.name=n)) (l:=fs) (k:=0) (i:=i) (fun j hj=>ZA (hp j hj)) (by omega) (Zd hc),Zl]
  exact Zw
 ·refine⟨fs.length-(i+1),by omega,_,_,Zr,Zs,i+1,by omega,rfl,dp hp hc,rfl,by rw[aO (n:=fs.length) (by omega) (by assumption)]⟩
 ·rw[q8 (fun y hy=>ZA (nQ (p:=fun y:aj=>¬y.name=n) (fun j hj=>hp j (by omega)) y hy))]
  exact Zw
def jX(fs:List aj)(n jK:ae):Ty×Int:=match findF fs n with
 |none=>(cC,4)
 |some f=>if f.cv=jK then(f.type,0)else(cC,5)
theorem ab8{fs:List aj}{n:ae}:(findF fs n=none∧firstIdx (fun x=>decide (x.name=n)) fs 0= -1)∨∃ i:Nat,i<fs.length∧firstIdx (fun x=>decide (x.name=n)) fs 0=(i:Int)∧findF fs n=some (fs.getD i default):=by
 rcases BG (fun x=>decide (x.name=n)) fs 0 with h|⟨i,h1,h2,h3⟩
 ·exact .inl h
 ·exact .inr ⟨i,h1,by rw[h2,Zl],h3⟩
theorem O0(c:az)(e0 n jK:ae):Pure prog 223 [.agg (eI c e0 (.v .nilFunc)),sv n,sv jK] (eF (jX c.features n jK)):=by
 have hi:=ads c.features n
 unfold jX
 rcases ab8 (fs:=c.features) (n:=n)with⟨h1,h2⟩|⟨i,h0,h2,h1⟩
 all_goals
  rw[h2]at hi
  rw[h1]
  refine afi.p fun σ=> ?_
  refine .k1 ?_
  refine .k2 ?_
  repeat'((fail_if_success (show WK _ _ _ _ _ _ _ _));(first|exact .nil|refine .k0 ?_|refine .k1 ?_|refine .r1 ?_ ?_|(refine .l1 ?_;intro b)|(refine .m1 ?_ ?_;intro b)|fail))
  refine .k0 ?_
  rename_i b3 b4
  refine sF 4 b4 (.there .here) (.same (.same (.p0 (.same .nil)))) ?_
  repeat'(first|exact .nil|refine .k0 ?_|refine .k1 ?_|refine .k2 ?_|refine .k6 ?_|refine .k7 ?_|refine .k9 ?_|(refine .cd ?_ ?_<;>(intro hc;skip))|refine .r1 ?_ ?_|refine .t1 ?_ ?_ ?_|refine .an rfl (by intro aq;first|exact hi|exact jl _) ?_ ?_|fail)
  try any_goals(exact Zo)
  all_goals(try simp only[BL]at *)
  all_goals try(show(0:Int)≤_∧_;omega)
 ·exact Zw
 ·exfalso;omega
 ·exfalso;omega
 ·exfalso;omega
 ·rw[Z6 hc];exact Zw
 ·rw[Z3 hc];exact Zw
abbrev lV(l:List Ty):AV:= .sl false 3 (l.map Ty.cells)
def fx:Option aP→AV
 |none=> .v .nilFunc
 |some t=> .cl 146 [] [.pc t.cells]
theorem agf(c:az)(e0:ae)(tb:Option aP)(x:Ex)(l:List Ty):Pure prog 186 [.agg (eI c e0 (fx tb)),.agg x.row,lV l] (eF (⟨x.val.kind,x.unit,x.name⟩,0)):=by
 cases tb
 all_goals
  refine aeQ.p fun σ=> ?_
  repeat'(first|exact .nil|refine .k0 ?_|refine .k1 ?_|refine .k2 ?_|refine .k7 ?_|refine .r1 ?_ ?_|(refine .l1 ?_;intro b)|(refine .m1 ?_ ?_;intro b)|fail)
  all_goals(try simp only[BL]at *)
  all_goals exact Zw
theorem abJ(c:az)(e0:ae)(x:Ex)(l:List Ty):Pure prog 188 [.agg (eI c e0 (.v .nilFunc)),.agg x.row,lV l] (eF (jX c.features x.name e0)):=by
 have hn:=O0 c e0 x.name e0
 generalize jX c.features x.name e0=r at *
 refine aeS.p fun σ=> ?_
 repeat'(first|exact .nil|refine .k0 ?_|refine .k1 ?_|refine .k2 ?_|refine .k7 ?_|refine .r1 ?_ ?_|(refine .l1 ?_;intro b)|(refine .m1 ?_ ?_;intro b)|refine .an rfl (by intro aq;first|exact hn|fail) ?_ ?_|fail)
 all_goals(try simp only[BL]at *)
 exact Zw
theorem agi(c:az)(e0:ae)(x:Ex)(l:List Ty)(hl:0<l.length):Pure prog 189 [.agg (eI c e0 (.v .nilFunc)),.agg x.row,lV l] (eF (if(l.getD 0 default).kind=5 then jX c.features x.name (l.getD 0 default).of else(cC,5))):=by
 have hn:=O0 c e0 x.name (l.getD 0 default).of
 generalize jX c.features x.name (l.getD 0 default).of=r at *
 refine aeT.p fun σ=> ?_
 repeat'(first|exact .nil|refine .k0 ?_|refine .k1 ?_|refine .k2 ?_|refine .k3 ?_|refine .k7 ?_|refine .k9 ?_|(refine .cd ?_ ?_<;>(intro hc;skip))|refine .r1 ?_ ?_|(refine .l1 ?_;intro b)|(refine .m1 ?_ ?_;intro b)|refine .t1 ?_ ?_ ?_|refine .an rfl (by intro aq;first|exact hn|exact jl _|fail) ?_ ?_|fail)
 try any_goals(exact Zo)
 all_goals(try simp only[BL]at *)
 all_goals try(show(0:Int)≤_∧_;omega)
 all_goals first|(rw[Z6 hc];(refine Sx.Fin.wk Zs ?_;repeat' first|exact .refl _|fail);done)|(rw[Z3 hc];(refine Sx.Fin.wk Zs ?_;repeat' first|exact .refl _|fail);done)
theorem W6(c:az)(e0:ae)(tb:Option aP)(x:Ex)(l:List Ty)(hl:l.length=3):Pure prog 193 [.agg (eI c e0 (fx tb)),.agg x.row,lV l] (eF (if(l.getD 0 default).kind=1 then nP (l.getD 1 default) (l.getD 2 default)else(cC,5))):=by
 cases tb
 all_goals
  refine aeX.p fun σ=> ?_
  repeat'(first|exact .nil|refine .k0 ?_|refine .k1 ?_|refine .k2 ?_|refine .k3 ?_|refine .k7 ?_|refine .k9 ?_|(refine .cd ?_ ?_<;>(intro hc;skip))|refine .r1 ?_ ?_|(refine .l1 ?_;intro b)|(refine .m1 ?_ ?_;intro b)|refine .t1 ?_ ?_ ?_|refine .an rfl (by intro aq;first|exact jl _|exact Iz _ _|fail) ?_ ?_|fail)
  try any_goals(exact Zo)
  all_goals(try simp only[BL]at *)
  all_goals try(show(0:Int)≤_∧_;omega)
  all_goals first|(rw[Z6 hc];(refine Sx.Fin.wk Zs ?_;repeat' first|exact .refl _|fail);done)|(rw[Z3 hc];(refine Sx.Fin.wk Zs ?_;repeat' first|exact .refl _|fail);done)
theorem abv(c:az)(e0:ae)(tb:Option aP)(x:Ex)(l:List Ty)(hl:l.length=2):Pure prog 194 [.agg (eI c e0 (fx tb)),.agg x.row,lV l] (eF (nP (l.getD 0 default) (l.getD 1 default))):=by
 cases tb
 all_goals
  refine aeY.p fun σ=> ?_
  repeat'(first|exact .nil|refine .k0 ?_|refine .k1 ?_|refine .k2 ?_|refine .k3 ?_|refine .k7 ?_|refine .r1 ?_ ?_|(refine .l1 ?_;intro b)|(refine .m1 ?_ ?_;intro b)|refine .t1 ?_ ?_ ?_|refine .an rfl (by intro aq;first|exact Iz _ _|fail) ?_ ?_|fail)
  try any_goals(exact Zo)
  all_goals(try simp only[BL]at *)
  all_goals try(show(0:Int)≤_∧_;omega)
  all_goals exact Zw
def ag0(o:ae)(l:List ae):Prop:=o∈l
instance (o:ae)(l:List ae):Decidable (ag0 o l):=inferInstanceAs (Decidable (o∈l))
def gG(o:ae)(a b:Ty):Ty×Int:=
 if b.kind≠1 then(cC,5)else if o=(⟨#[99,111,117,110,116]⟩:ae)∨o=(⟨#[100,105,115,116,105,110,99,116]⟩:ae)then(⟨2,[],s0⟩,0)else if o=(⟨#[102,105,114,115,116]⟩:ae)∨o=(⟨#[108,97,115,116]⟩:ae)then(a,0)else if(o=(⟨#[109,105,110]⟩:ae)∨o=(⟨#[109,97,120]⟩:ae))∧a.kind=4 then(a,0)
 else if¬Num a then(cC,5)else if o=(⟨#[109,101,97,110]⟩:ae)∨o=(⟨#[100,101,99,97,121]⟩:ae)then(⟨3,a.unit,s0⟩,0)else(a,0)
def ke(o:ae)(a:Ty):Ty×Int:=
 if o=(⟨#[45]⟩:ae)∧Num a then(a,0)else if o=(⟨#[110,117,108,108]⟩:ae)∨(o=(⟨#[110,111,116]⟩:ae)∧a.kind=1)then(⟨1,[],s0⟩,0)else(cC,5)
theorem Wo(c:az)(e0:ae)(x:Ex)(l:List Ty)(hl:l.length=2):Pure prog 190 [.agg (eI c e0 (.v .nilFunc)),.agg x.row,lV l] (eF (gG x.op (l.getD 0 default) (l.getD 1 default))):=by
 refine aeU.p fun σ=> ?_
 repeat'(first|exact .nil|refine .k0 ?_|refine .k1 ?_|refine .k2 ?_|refine .k4 ?_|refine .k6 ?_|refine .k7 ?_|refine .k9 ?_|(refine .cd ?_ ?_<;>(intro hc;first|exact kf hc (by assumption)|skip))|refine .r1 ?_ ?_|(refine .l1 ?_;intro b)|(refine .m1 ?_ ?_;intro b)|refine .t1 ?_ ?_ ?_|refine .an rfl (by intro aq;first|exact jl _|exact CG _) ?_ ?_|fail)
 try any_goals(exact Zo)
 all_goals(try simp only[BL]at *)
 all_goals try(show(0:Int)≤_∧_;omega)
 all_goals clear hl
 all_goals generalize l.getD 0 default=A at *
 all_goals generalize l.getD 1 default=B at *
 all_goals first
  |(rw[show gG x.op A B=(cC,5)from by unfold gG;grind];(refine Sx.Fin.wk Zs ?_;repeat' first|exact .refl _|refine .cons ?_ ?_|refine .aE ?_|refine .agg ?_|fail);done)
  |(rw[show gG x.op A B=(A,0)from by unfold gG;grind];(refine Sx.Fin.wk Zs ?_;repeat' first|exact .refl _|refine .cons ?_ ?_|refine .aE ?_|refine .agg ?_|fail);done)
  |(rw[show gG x.op A B=(⟨2,[],s0⟩,0)from by unfold gG;grind];(refine Sx.Fin.wk Zs ?_;repeat' first|exact .refl _|exact .nil|refine .cons ?_ ?_|refine .aE ?_|refine .agg ?_|fail);done)
  |(rw[show gG x.op A B=(⟨3,A.unit,s0⟩,0)from by unfold gG;grind];(refine Sx.Fin.wk Zs ?_;repeat' first|exact .refl _|fail);done)
theorem aMs(c:az)(e0:ae)(tb:Option aP)(x:Ex)(l:List Ty)(hl:l.length=1):Pure prog 191 [.agg (eI c e0 (fx tb)),.agg x.row,lV l] (eF (ke x.op (l.getD 0 default))):=by
 cases tb
 all_goals
  refine aeV.p fun σ=> ?_
  repeat'(first|exact .nil|refine .k0 ?_|refine .k1 ?_|refine .k2 ?_|refine .k3 ?_|refine .k4 ?_|refine .k6 ?_|refine .k7 ?_|refine .k9 ?_|(refine .cd ?_ ?_<;>(intro hc;first|exact kf hc (by assumption)|skip))|refine .r1 ?_ ?_|(refine .l1 ?_;intro b)|(refine .m1 ?_ ?_;intro b)|refine .t1 ?_ ?_ ?_|refine .an rfl (by intro aq;first|exact jl _|exact CG _) ?_ ?_|fail)
  try any_goals(exact Zo)
  all_goals(try simp only[BL]at *)
  all_goals try(show(0:Int)≤_∧_;omega)
  all_goals clear hl
  all_goals generalize l.getD 0 default=A at *
  all_goals first
   |(rw[show ke x.op A=(cC,5)from by unfold ke;grind];(refine Sx.Fin.wk Zs ?_;repeat' first|exact .refl _|fail);done)
   |(rw[show ke x.op A=(A,0)from by unfold ke;grind];(refine Sx.Fin.wk Zs ?_;repeat' first|exact .refl _|fail);done)
   |(rw[show ke x.op A=(⟨1,[],s0⟩,0)from by unfold ke;grind];(refine Sx.Fin.wk Zs ?_;repeat' first|exact .refl _|exact .nil|refine .cons ?_ ?_|refine .aE ?_|refine .agg ?_|fail);done)
set_option maxHeartbeats 8000000
theorem Fe{α:Type}[Inhabited α](p:α→Bool):∀ (l:List α) (k:Nat),(l.find? p=none∧firstIdx p l k= -1)∨∃ i:Nat,i<l.length∧firstIdx p l k=((k+i:Nat):Int)∧l.find? p=some (l.getD i default)
 |[],k=> .inl ⟨rfl,rfl⟩
 |x::l,k=>by
  unfold firstIdx
  by_cases h:p x=true
  ·exact .inr ⟨0,by simp,by simp[h],by simp[h]⟩
  ·rcases Fe p l (k+1)with⟨h1,h2⟩|⟨i,h1,h2,h3⟩
   ·exact .inl ⟨by simp[h,h1],by simp[h,h2]⟩
   ·exact .inr ⟨i+1,by simpa using h1,by rw[Z6 h,h2];omega,by simp[h,h3]⟩
def x9(fs:List bZ)(n:ae):Option bZ:=fs.find? fun f=>decide (f.name=n)
theorem ace(x:bZ)(n:ae):Pure prog 147 [.agg x.cells,.pc [sv n]] (.v (.bool (decide (x.name=n)))):=by
 refine aeu.p fun σ=> ?_
 repeat'(first|exact .nil|refine .k0 ?_|refine .k1 ?_|refine .k2 ?_|refine .k7 ?_|refine .r1 ?_ ?_|(refine .m1 ?_ ?_;intro b)|fail)
 all_goals(try simp only[BL]at *)
 ·exact Sx.Fin.intro Zs rfl
theorem adt(fs:List bZ)(n:ae):Pure prog 89 [.sl false 4 (fs.map bZ.cells),.cl 147 [] [.pc [sv n]]] (iv (firstIdx (fun x=>decide (x.name=n)) fs 0)):=by
 refine k89.p fun σ=> ?_
 repeat'(first|exact .nil|refine .k0 ?_|refine .k1 ?_|refine .k2 ?_|refine .k6 ?_|refine .r1 ?_ ?_|(refine .m2 ?_ ?_;intro hlen)|fail)
 all_goals(try simp only[BL]at *)
 refine aH (fun m rg af=>∃ i:Nat,i≤fs.length∧m=fs.length-i∧(∀ j,j<i→¬(fs.getD j default).name=n)∧af=σ∧rg=[(0,.sl false 4 (fs.map bZ.cells)),(1,.cl 147 [] [.pc [sv n]]),(7,iv fs.length),(8,iv i)]) fs.length rfl ⟨_,_,Zr,Zs,0,Z1 _,rfl,fun j hj=>absurd hj (by omega),rfl,rfl⟩ ?_
 rintro m _ _ ⟨i,hi,hn,hp,rfl,rfl⟩
 repeat'(first|exact .nil|refine .k0 ?_|refine .k1 ?_|refine .k2 ?_|refine .k6 ?_|refine .k7 ?_|refine .k8 ?_|refine .k9 ?_|(refine .cd ?_ ?_<;>(intro hc;skip))|refine .r1 ?_ ?_|refine .t1 ?_ ?_ ?_|refine .an rfl (by intro aq;exact ace _ _) ?_ ?_|fail)
 try any_goals(exact Zo)
 all_goals(try simp only[BL]at *)
 ·rw[q7 (p:=fun x:bZ=>decide (x.name=n)) (l:=fs) (k:=0) (i:=i) (fun j hj=>ZA (hp j hj)) (by omega) (Zd hc),Zl]
  exact Zw
 ·refine⟨fs.length-(i+1),by omega,_,_,Zr,Zs,i+1,by omega,rfl,dp hp hc,rfl,by rw[aO (n:=fs.length) (by omega) (by assumption)]⟩
 ·rw[q8 (fun y hy=>ZA (nQ (p:=fun y:bZ=>¬y.name=n) (fun j hj=>hp j (by omega)) y hy))]
  exact Zw
def ov(fs:List bZ)(n:ae):Ty×Int:=match x9 fs n with
 |none=>(cC,4)
 |some f=>(f.type,0)
theorem ab9{fs:List bZ}{n:ae}:(x9 fs n=none∧firstIdx (fun x=>decide (x.name=n)) fs 0= -1)∨∃ i:Nat,i<fs.length∧firstIdx (fun x=>decide (x.name=n)) fs 0=(i:Int)∧x9 fs n=some (fs.getD i default):=by
 rcases Fe (fun x:bZ=>decide (x.name=n)) fs 0 with h|⟨i,h1,h2,h3⟩
 ·exact .inl h
 ·exact .inr ⟨i,h1,by rw[h2,Zl],h3⟩
theorem abR(t:aP)(n:ae):Pure prog 146 [sv n,.pc t.cells] (eF (ov t.fields n)):=by
 have hi:=adt t.fields n
 unfold ov
 rcases ab9 (fs:=t.fields) (n:=n)with⟨h1,h2⟩|⟨i,h0,h2,h1⟩
 all_goals
  rw[h2]at hi
  rw[h1]
  refine aet.p fun σ=> ?_
  refine .k1 ?_
  refine .k2 ?_
  repeat'((fail_if_success (show WK _ _ _ _ _ _ _ _));(first|exact .nil|refine .k0 ?_|refine .k1 ?_|refine .r1 ?_ ?_|(refine .l1 ?_;intro b)|(refine .m1 ?_ ?_;intro b)|fail))
  refine .k0 ?_
  rename_i b2
  refine sF 2 b2 (.there .here) (.same (.p0 (.same .nil))) ?_
  repeat'(first|exact .nil|refine .k0 ?_|refine .k1 ?_|refine .k2 ?_|refine .k7 ?_|refine .k9 ?_|(refine .cd ?_ ?_<;>(intro hc;skip))|refine .r1 ?_ ?_|refine .t1 ?_ ?_ ?_|refine .an rfl (by intro aq;first|exact hi|exact jl _) ?_ ?_|fail)
  try any_goals(exact Zo)
  all_goals(try simp only[BL]at *)
  all_goals try(show(0:Int)≤_∧_;omega)
  all_goals first|(exfalso;omega)|(refine Sx.Fin.wk Zs ?_;repeat' first|exact .refl _|fail)
theorem abS(c:az)(e0:ae)(t:aP)(x:Ex)(l:List Ty):Pure prog 187 [.agg (eI c e0 (fx (some t))),.agg x.row,lV l] (eF (ov t.fields x.name)):=by
 refine aeR.p fun σ=> ?_
 repeat'(first|exact .nil|refine .k0 ?_|refine .k1 ?_|refine .k2 ?_|refine .k7 ?_|refine .r1 ?_ ?_|(refine .l1 ?_;intro b)|(refine .m1 ?_ ?_;intro b)|refine .an rfl (by intro aq;exact abR _ _) ?_ ?_|fail)
 all_goals(try simp only[BL]at *)
 exact Zw
theorem aL5(t:aP)(x:Ex):Pure prog 145 [.agg t.cells,.pc x.row] (.v (.bool (decide (t.name=x.table)))):=by
 refine aes.p fun σ=> ?_
 repeat'(first|exact .nil|refine .k0 ?_|refine .k1 ?_|refine .k2 ?_|refine .k7 ?_|refine .r1 ?_ ?_|(refine .m1 ?_ ?_;intro b)|fail)
 all_goals(try simp only[BL]at *)
 ·exact Sx.Fin.intro Zs rfl
theorem adw(fs:List aP)(x:Ex):Pure prog 144 [.sl false 4 (fs.map aP.cells),.cl 145 [] [.pc x.row]] (iv (firstIdx (fun t=>decide (t.name=x.table)) fs 0)):=by
 refine aer.p fun σ=> ?_
 repeat'(first|exact .nil|refine .k0 ?_|refine .k1 ?_|refine .k2 ?_|refine .k6 ?_|refine .r1 ?_ ?_|(refine .m2 ?_ ?_;intro hlen)|fail)
 all_goals(try simp only[BL]at *)
 refine aH (fun m rg af=>∃ i:Nat,i≤fs.length∧m=fs.length-i∧(∀ j,j<i→¬(fs.getD j default).name=x.table)∧af=σ∧rg=[(0,.sl false 4 (fs.map aP.cells)),(1,.cl 145 [] [.pc x.row]),(7,iv fs.length),(8,iv i)]) fs.length rfl ⟨_,_,Zr,Zs,0,Z1 _,rfl,fun j hj=>absurd hj (by omega),rfl,rfl⟩ ?_
 rintro m _ _ ⟨i,hi,hn,hp,rfl,rfl⟩
 repeat'(first|exact .nil|refine .k0 ?_|refine .k1 ?_|refine .k2 ?_|refine .k6 ?_|refine .k7 ?_|refine .k8 ?_|refine .k9 ?_|(refine .cd ?_ ?_<;>(intro hc;skip))|refine .r1 ?_ ?_|refine .t1 ?_ ?_ ?_|refine .an rfl (by intro aq;exact aL5 _ _) ?_ ?_|fail)
 try any_goals(exact Zo)
 all_goals(try simp only[BL]at *)
 ·rw[q7 (p:=fun t:aP=>decide (t.name=x.table)) (l:=fs) (k:=0) (i:=i) (fun j hj=>ZA (hp j hj)) (by omega) (Zd hc),Zl]
  exact Zw
 ·refine⟨fs.length-(i+1),by omega,_,_,Zr,Zs,i+1,by omega,rfl,dp hp hc,rfl,by rw[aO (n:=fs.length) (by omega) (by assumption)]⟩
 ·rw[q8 (fun y hy=>ZA (nQ (p:=fun y:aP=>¬y.name=x.table) (fun j hj=>hp j (by omega)) y hy))]
  exact Zw
theorem aca{fs:List aP}{n:ae}:(mU fs n=none∧firstIdx (fun x=>decide (x.name=n)) fs 0= -1)∨∃ i:Nat,i<fs.length∧firstIdx (fun x=>decide (x.name=n)) fs 0=(i:Int)∧mU fs n=some (fs.getD i default):=by
 rcases Fe (fun x:aP=>decide (x.name=n)) fs 0 with h|⟨i,h1,h2,h3⟩
 ·exact .inl h
 ·exact .inr ⟨i,h1,by rw[h2,Zl],h3⟩
def z7(k:Int):FuncId:=if k=1 then 186 else if k=2 then 187 else if k=3 then 188 else if k=4 then 189 else if k=5 then 190 else if k=6 then 191 else if k=7 then 192 else if k=8 then 193 else 194
theorem Qd(c:az)(e0:ae)(tb:Option aP)(k:Int)(hk:1≤k∧k≤9):Pure prog 148 [.agg (eI c e0 (fx tb)),iv k] (.cl (z7 k) [.agg (eI c e0 (fx tb))] []):=by
 have h:k=1∨k=2∨k=3∨k=4∨k=5∨k=6∨k=7∨k=8∨k=9:=by omega
 cases tb<;>rcases h with rfl|rfl|rfl|rfl|rfl|rfl|rfl|rfl|rfl
 all_goals
  refine aev.p fun σ=> ?_
  repeat'(first|exact .nil|refine .k0 ?_|refine .k1 ?_|refine .k2 ?_|refine .k7 ?_|refine .r1 ?_ ?_|(refine .m1 ?_ ?_;intro b)|(refine .l3 ?_;intro b)|refine .r6 ?_ ?_|refine .r7 ?_ ?_|fail)
  all_goals(try simp only[BL]at *)
  all_goals exact Sx.Fin.intro Zs rfl
set_option maxHeartbeats 16000000
def bQ(l:List ar)(n:ae):Int:=((l.filter fun f=>decide (f.name=n)).map ar.exp).sum
def qj(l:List ar):List ar×Int:=
 let ns:=fQ (l.map ar.name)
 if∃ n∈ns,bQ l n>8∨bQ l n< -8 then([],70)else
 let u:=(ns.map fun n=>(⟨n,bQ l n⟩:ar)).filter fun f=>decide (f.exp≠0)
 if u.length>4 then([],2)else(u,0)
def eA(a b:List ar)(sg:Int):List ar×Int:=
 if dk a≠0 then([],dk a)else if dk b≠0 then([],dk b)else qj (a++b.map fun f=>(⟨f.name,sg * f.exp⟩:ar))
abbrev qy(u:List ar×Int):AV:= .aE [.sl false 2 (u.1.map ar.cells),iv u.2]
def mP:Prop:=∀ a b:List ar,Sx.Pure prog 224 [.sl false 2 (a.map ar.cells),.sl false 2 (b.map ar.cells)] (qy (eA a b 1))
def mO:Prop:=∀ a b:List ar,Sx.Pure prog 225 [.sl false 2 (a.map ar.cells),.sl false 2 (b.map ar.cells)] (qy (eA a b (-1)))
def j0:ae:=(⟨#[97,110,100]⟩:ae)
def j5:ae:=(⟨#[111,114]⟩:ae)
def j2:ae:=(⟨#[61,61]⟩:ae)
def j4:ae:=(⟨#[33,61]⟩:ae)
def jw:ae:=(⟨#[60]⟩:ae)
def jv:ae:=(⟨#[60,61]⟩:ae)
def j3:ae:=(⟨#[42]⟩:ae)
def j1:ae:=(⟨#[47]⟩:ae)
def jZ:ae:=(⟨#[43]⟩:ae)
def j6:ae:=(⟨#[45]⟩:ae)
def DF:Ty:=⟨1,[],s0⟩
def dZ(o:ae)(a b:Ty):Ty×Int:=
 if o=j0∨o=j5 then(if a.kind=1∧b.kind=1 then(DF,0)else(cC,5))
 else if o=j2∨o=j4∨o=jw∨o=jv then
  (if Num a∧Num b∧a.unit≠b.unit then(cC,70)
   else if(Num a∧Num b)∨(if o=jw∨o=jv then a.kind=4∧b.kind=4 else a.kind=b.kind∧a.of=b.of∧a.unit=b.unit)then(DF,0)else(cC,5))
 else if¬(Num a∧Num b)then(cC,5)
 else if o=j3 then(if(eA a.unit b.unit 1).2≠0 then(cC,70)else(⟨max a.kind b.kind,(eA a.unit b.unit 1).1,s0⟩,0))
 else if o=j1 then(if(eA a.unit b.unit (-1)).2≠0 then(cC,70)else(⟨3,(eA a.unit b.unit (-1)).1,s0⟩,0))
 else if(o=jZ∨o=j6)∧a.unit≠b.unit then(cC,70)else(⟨max a.kind b.kind,a.unit,s0⟩,0)
theorem afU(a b:Int):(if b>a then b else a)=max a b:=by rw[Int.max_def];split<;>split<;>omega
theorem WG(hT:mP)(hO:mO)(c:az)(e0:ae)(tb:Option aP)(x:Ex)(l:List Ty)(hl:l.length=2):Pure prog 192 [.agg (eI c e0 (fx tb)),.agg x.row,lV l] (eF (dZ x.op (l.getD 0 default) (l.getD 1 default))):=by
 unfold mP at hT
 unfold mO at hO
 cases tb
 all_goals
  refine aeW.p fun σ=> ?_
  repeat'(first|exact .nil|refine .k0 ?_|refine .k1 ?_|refine .k2 ?_|refine .k3 ?_|refine .k4 ?_|refine .k6 ?_|refine .k7 ?_|refine .k9 ?_|(refine .cd ?_ ?_<;>(intro hc;first|exact kf hc (by assumption)|skip))|refine .r1 ?_ ?_|(refine .l1 ?_;intro b)|(refine .m1 ?_ ?_;intro b)|refine .t1 ?_ ?_ ?_|refine .an rfl (by intro aq;first|exact CG _|exact Ro _ _|exact jl _|exact hT _ _|exact hO _ _) ?_ ?_|fail)
  try any_goals(exact Zo)
  all_goals(try simp only[BL]at *)
  all_goals try(show(0:Int)≤_∧_;omega)
  all_goals clear hl hT hO
  all_goals generalize l.getD 0 default=A at *
  all_goals generalize l.getD 1 default=B at *
  all_goals try simp only[ZG,Za,afU]
  all_goals first
   |(rw[show dZ x.op A B=(cC,5)from by unfold dZ j0 j5 j2 j4 jw jv j3 j1 jZ j6;grind];(refine Sx.Fin.wk Zs ?_;repeat' first|exact .refl _|exact .nil|refine .cons ?_ ?_|refine .aE ?_|refine .agg ?_|fail);done)
   |(rw[show dZ x.op A B=(DF,0)from by unfold dZ j0 j5 j2 j4 jw jv j3 j1 jZ j6;grind];(refine Sx.Fin.wk Zs ?_;repeat' first|exact .refl _|exact .nil|refine .cons ?_ ?_|refine .aE ?_|refine .agg ?_|fail);done)
   |(rw[show dZ x.op A B=(cC,70)from by unfold dZ j0 j5 j2 j4 jw jv j3 j1 jZ j6;grind];(refine Sx.Fin.wk Zs ?_;repeat' first|exact .refl _|fail);done)
   |(rw[show dZ x.op A B=(⟨max A.kind B.kind,A.unit,s0⟩,0)from by unfold dZ j0 j5 j2 j4 jw jv j3 j1 jZ j6;grind];(refine Sx.Fin.wk Zs ?_;repeat' first|exact .refl _|fail);done)
   |(rw[show dZ x.op A B=(⟨max A.kind B.kind,(eA A.unit B.unit 1).1,s0⟩,0)from by unfold dZ j0 j5 j2 j4 jw jv j3 j1 jZ j6;grind];(refine Sx.Fin.wk Zs ?_;repeat' first|exact .refl _|fail);done)
   |(rw[show dZ x.op A B=(⟨3,(eA A.unit B.unit (-1)).1,s0⟩,0)from by unfold dZ j0 j5 j2 j4 jw jv j3 j1 jZ j6;grind];(refine Sx.Fin.wk Zs ?_;repeat' first|exact .refl _|fail);done)
   |trace_state
set_option maxHeartbeats 16000000
def ga(c:az)(e0:ae)(tb:Option aP)(x:Ex)(l:List Ty):Ty×Int:=
 if x.kind=1 then(⟨x.val.kind,x.unit,x.name⟩,0)
 else if x.kind=2 then(match tb with|some t=>ov t.fields x.name|none=>(cC,0))
 else if x.kind=3 then jX c.features x.name e0
 else if x.kind=4 then(if(l.getD 0 default).kind=5 then jX c.features x.name (l.getD 0 default).of else(cC,5))
 else if x.kind=5 then gG x.op (l.getD 0 default) (l.getD 1 default)
 else if x.kind=6 then ke x.op (l.getD 0 default)
 else if x.kind=7 then dZ x.op (l.getD 0 default) (l.getD 1 default)
 else if x.kind=8 then(if(l.getD 0 default).kind=1 then nP (l.getD 1 default) (l.getD 2 default)else(cC,5))
 else nP (l.getD 0 default) (l.getD 1 default)
def lK(c:az)(e0:ae)(tb:Option aP)(x:Ex):Option aP×Int:=
 if x.kind=5 then(match mU c.tables x.table with
  |none=>(none,4)
  |some t=>if t.cv=e0 then(some t,0)else(none,5))else(tb,0)
def mq(c:az)(e0:ae)(tb:Option aP)(x:Ex)(q:Int)(s:List Ty×Int):Ty×Int:=if q≠0 then(cC,q)else if s.2≠0 then(cC,s.2)else ga c e0 tb x s.1
mutual
def inf(c:az)(e0:ae):Ex→Option aP→Ty×Int
 | .mk k o n t v u p w ks,tb=>mq c e0 tb (.mk k o n t v u p w ks) (lK c e0 tb (.mk k o n t v u p w ks)).2 (dG c e0 ks (lK c e0 tb (.mk k o n t v u p w ks)).1)
def dG(c:az)(e0:ae):List Ex→Option aP→List Ty×Int
 |[],_=>([],0)
 |x::l,tb=>if(inf c e0 x tb).2≠0 then([],(inf c e0 x tb).2)else((inf c e0 x tb).1::(dG c e0 l tb).1,(dG c e0 l tb).2)
end
theorem CC(c:az)(e0:ae)(x:Ex)(tb:Option aP):inf c e0 x tb=mq c e0 tb x (lK c e0 tb x).2 (dG c e0 x.args (lK c e0 tb x).1):=by
 cases x;rw[inf];rfl
theorem zE(c:az)(e0:ae){l:List Ex}{i:Nat}(hi:i<l.length)(tb:Option aP):dG c e0 (l.drop i) tb=if(inf c e0 (l.getD i default) tb).2≠0 then([],(inf c e0 (l.getD i default) tb).2)else((inf c e0 (l.getD i default) tb).1::(dG c e0 (l.drop (i+1)) tb).1,(dG c e0 (l.drop (i+1)) tb).2):=by
 have e:l.drop i=l.getD i default::l.drop (i+1):=by rw[getD_eq hi,X7]
 rw[e,dG]
theorem q9{ins:Bool}{x:Ex}(h:form ins x=true):(x.kind=1∧x.args.length=0)∨(x.kind=2∧ins=true∧x.args.length=0)∨(x.kind=3∧ins=false∧x.args.length=0)∨(x.kind=4∧ins=false∧x.args.length=1)∨(x.kind=5∧ins=false∧x.args.length=2)∨(x.kind=6∧x.args.length=1)∨(x.kind=7∧x.args.length=2)∨(x.kind=8∧x.args.length=3)∨(x.kind=9∧x.args.length=2):=by
 obtain⟨h1,h2,_⟩:=(lD ins x).1 h
 unfold gm at h1
 unfold iY at h2
 by_cases e1:x.kind=1
 ·rw[Z6 (by omega),Z6 (by omega),Z6 (by omega)]at h2;left;omega
 rw[Z6 e1]at h1
 by_cases e2:x.kind=2
 ·rw[Z3 e2]at h1;rw[Z6 (by omega),Z6 (by omega),Z6 (by omega)]at h2;have:=h1.1;right;left;exact⟨e2,this,by omega⟩
 rw[Z6 e2]at h1
 by_cases e3:x.kind=3∨x.kind=4
 ·rw[Z3 e3]at h1
  rcases e3 with e|e
  ·rw[Z6 (by omega),Z6 (by omega),Z6 (by omega)]at h2;exact .inr (.inr (.inl ⟨e,h1.1,by omega⟩))
  ·rw[Z3 (by omega)]at h2;exact .inr (.inr (.inr (.inl ⟨e,h1.1,by omega⟩)))
 rw[Z6 e3]at h1
 by_cases e5:x.kind=5
 ·rw[Z3 e5]at h1;rw[Z6 (by omega),Z3 (by omega)]at h2;exact .inr (.inr (.inr (.inr (.inl ⟨e5,h1.1,by omega⟩))))
 rw[Z6 e5]at h1
 by_cases e6:x.kind=6
 ·rw[Z3 (by omega)]at h2;exact .inr (.inr (.inr (.inr (.inr (.inl ⟨e6,by omega⟩)))))
 rw[Z6 e6]at h1
 by_cases e7:x.kind=7
 ·rw[Z6 (by omega),Z3 (by omega)]at h2;exact .inr (.inr (.inr (.inr (.inr (.inr (.inl ⟨e7,by omega⟩))))))
 rw[Z6 e7]at h1
 by_cases e8:x.kind=8∨x.kind=9
 ·rcases e8 with e|e
  ·rw[Z6 (by omega),Z6 (by omega),Z3 e]at h2;exact .inr (.inr (.inr (.inr (.inr (.inr (.inr (.inl ⟨e,by omega⟩)))))))
  ·rw[Z6 (by omega),Z3 (by omega)]at h2;exact .inr (.inr (.inr (.inr (.inr (.inr (.inr (.inr ⟨e,by omega⟩)))))))
 ·rw[Z6 e8]at h1;exact h1.elim
theorem Qc(hT:mP)(hO:mO)(c:az)(e0:ae)(tb:Option aP)(x:Ex)(hf:form tb.isSome x=true)(l:List Ty)(hl:l.length=x.args.length):Pure prog (z7 x.kind) [.agg (eI c e0 (fx tb)),.agg x.row,lV l] (eF (ga c e0 tb x l)):=by
 unfold ga z7
 rcases q9 hf with⟨h,h1⟩|⟨h,h0,h1⟩|⟨h,h0,h1⟩|⟨h,h0,h1⟩|⟨h,h0,h1⟩|⟨h,h1⟩|⟨h,h1⟩|⟨h,h1⟩|⟨h,h1⟩<;>rw[h]
 ·exact agf c e0 tb x l
 ·cases tb with
  |none=>cases h0
  |some t=>exact abS c e0 t x l
 ·cases tb with
  |none=>exact abJ c e0 x l
  |some t=>cases h0
 ·cases tb with
  |none=>exact agi c e0 x l (by omega)
  |some t=>cases h0
 ·cases tb with
  |none=>exact Wo c e0 x l (by omega)
  |some t=>cases h0
 ·exact aMs c e0 tb x l (by omega)
 ·exact WG hT hO c e0 tb x l (by omega)
 ·exact W6 c e0 tb x l (by omega)
 ·exact abv c e0 tb x l (by omega)
def AU(rows:List (List AV))(y:AV)(τ:Store):Prop:=(rows=[]∧y=dM∧τ=[])∨∃ b u c,y= .own 3 66 b u c rows∧τ=[(66,b,.tail u c)]
theorem Fw{L:List Ty}{y:AV}{τ:Store}(h:AU (L.map Ty.cells) y τ):Wk y (lV L):=by
 rcases h with⟨hE,rfl,rfl⟩|⟨b,u,c,rfl,rfl⟩
 ·rw[Ym.1 hE];exact .nil
 ·exact .own _
theorem x7{c:az}{e0:ae}{tb:Option aP}{x:Ex}{l:List Ty}{e:Int}(h:¬e=0):mq c e0 tb x 0 (l,e)=(cC,e):=by
 unfold mq;rw[Z6 (by simp),Z3 h]
theorem x8{c:az}{e0:ae}{tb:Option aP}{x:Ex}{l:List Ty}:mq c e0 tb x 0 (l++[],0)=ga c e0 tb x l:=by
 unfold mq;rw[Z6 (by simp),Z6 (by simp),Zb]
theorem Ir(k:Int):jI prog (z7 k)=true:=by
 unfold z7
 repeat' first|rfl|split
def xE(C:az)(e0:ae)(x:Ex):Prop:=∀ tb,form tb.isSome x=true→Sx.Pure prog 98 [.agg (eI C e0 (fx tb)),.agg x.row] (eF (inf C e0 x tb))
theorem adC(hT:mP)(hO:mO)(C:az)(e0:ae)(x:Ex)(ih:∀ i,i<x.args.length→xE C e0 (x.args.getD i default))(tb:Option aP)(hf:form tb.isSome x=true)(hk:¬x.kind=5):Pure prog 98 [.agg (eI C e0 (fx tb)),.agg x.row] (eF (inf C e0 x tb)):=by
 have nj:=q9 hf
 have hB:=Qd C e0 tb x.kind (by omega)
 have ik:=Qc hT hO C e0 tb x hf
 have FT:x.args.length≤3:=by omega
 have tn:∀ i,i<x.args.length→form tb.isSome (x.args.getD i default)=true:=fun i hi=>by
  have:=((lD _ x).1 hf).2.2.1 _ (bu hi)
  rwa [ZA hk,Bool.or_false]at this
 have hA0:=fun(i:Nat) (h:i<x.args.length)=>ih i h tb (tn i h)
 have dq:lK C e0 tb x=(tb,0):=Z6 hk
 rw[CC,dq]
 simp only[Ex.bP x]at ik ⊢
 rcases tb with _|o6
 all_goals
  refine CJ.p fun σ=> ?_
  refine .k1 ?_
  refine .k2 ?_
  repeat'((fail_if_success (show WK _ _ _ _ _ _ _ _));(first|exact .nil|refine .k0 ?_|refine .k1 ?_|refine .r1 ?_ ?_|(refine .l1 ?_;intro b)|(refine .m1 ?_ ?_;intro b)|fail))
  refine .k0 ?_
  rename_i b2 b3
  rename Nat=>b4
  refine sF 3 b3 (.there .here) (.same (.p0 (.same .nil))) ?_
  repeat'(first|exact .nil|refine .k0 ?_|refine .k1 ?_|refine .k2 ?_|refine .k6 ?_|refine .k9 ?_|(refine .cd ?_ ?_<;>(intro hc;skip))|refine .r1 ?_ ?_|(refine .l1 ?_;intro b)|(refine .m2 ?_ ?_;intro hlen)|fail)
  all_goals(try simp only[BL]at *)
  all_goals try(exfalso;exact hk hc)
  rename Nat=>b6
 ·refine aH (fun m rg af=>∃ (i:Nat) (L:List Ty) (y:AV) (τ:Store),i≤x.args.length∧m=x.args.length-i∧L.length=i∧dG C e0 x.args none=(L++(dG C e0 (x.args.drop i) none).1,(dG C e0 (x.args.drop i) none).2)∧AU (L.map Ty.cells) y τ∧af=τ++(6,b6,aG.cells (eI C e0 (fx none)))::(4,b4,aG.cells [iv 0,dM,sv s0])::(2,b2,aG.cells (eI C e0 (fx none)))::σ∧rg=[(2,.lp 2 b2 0),(3,.pc x.lay),(4,.lp 4 b4 0),(6,.lp 6 b6 0),(9,y),(45,.sl false 12 (x.args.map Ex.row)),(46,iv x.args.length),(47,iv i)]) x.args.length rfl ⟨_,_,Zr,Zs,0,[],_,_,Z1 _,rfl,rfl,rfl,.inl ⟨rfl,rfl,rfl⟩,rfl,rfl⟩ ?_
  rintro m _ _ ⟨i,L,y,τ,hi,hm,hL,gR,hG,rfl,rfl⟩
  have hW:=Fw hG
  have fh:=fun(h:L.length=x.args.length)=>(ik L h).wk (.cons (.refl _) (.cons (.refl _) (.cons hW .nil)))
  have hA:=hA0 i
  have hd:=fun(h:i<x.args.length) TB=>zE C e0 h TB
  have Ms:=hG
  rcases hG with⟨hE,rfl,rfl⟩|⟨b7,u7,c7,rfl,rfl⟩
  all_goals
   repeat'(first|exact .nil|refine .k0 ?_|refine .k1 ?_|refine .k2 ?_|refine .k3 ?_|refine .k6 ?_|refine .k7 ?_|refine .k8 ?_|refine .k9 ?_|(refine .cd ?_ ?_<;>(intro hc;skip))|refine .r1 ?_ ?_|(refine .l1 ?_;intro b)|refine .t1 ?_ ?_ ?_|refine .u1 ?_ ?_ ?_ (fun b u c=> ?_)|refine .u2 ?_ ?_ ?_ (fun b u c=> ?_)|refine .an rfl (by intro aq;first|exact jl _|exact hA (by(simp only[BL]at *;omega))|exact hB) ?_ ?_|(show List.all _ _=true;rfl)|fail)
   try any_goals(exact Zo)
   all_goals(try simp only[BL]at *)
   all_goals try(refine A5 rfl (Ir _) (fun _=>fh (by omega)) OB.nil ?_)
   all_goals repeat'(first|exact .nil|refine .k0 ?_|refine .k1 ?_|refine .k7 ?_|refine .r1 ?_ ?_|fail)
   all_goals try any_goals(fail)
   all_goals(try simp only[BL]at *)
   all_goals try(show _≤1000000;simp only[Z8,Z5];omega)
   all_goals try(show _ * _≤_;simp only[Z7,Z8,Z5];omega)
   all_goals first
    |(show Sx.Fin _ _ _ _
      have bp:i<x.args.length:=by omega
      rw[gR,hd bp,Z3 hc,x7 hc];exact Zw;done)
    |(show Sx.Fin _ _ _ _
      have bp:i=x.args.length:=by omega
      subst bp
      rw[gR,Y2,dG,x8];exact Zw;done)
    |(have bp:i<x.args.length:=by omega
      refine⟨m-1,by omega,_,[(66,b,.tail u c)]++(6,b6,aG.cells (eI C e0 (fx none)))::(4,b4,aG.cells [iv 0,dM,sv s0])::(2,b2,aG.cells (eI C e0 (fx none)))::σ,Zr,Zs,i+1,L++[(inf C e0 (x.args.getD i default) none).1],_,_,by omega,by omega,by simp[hL],?_,.inr ⟨b,u,c,?_,rfl⟩,rfl,by rw[aO (n:=50) (by omega) (by decide)]⟩
      ·rw[gR,hd bp,Z6 (by rw[hc];simp)];simp
      ·rw[Zz];first|rfl|(rw[hE];rfl))
 ·refine aH (fun m rg af=>∃ (i:Nat) (L:List Ty) (y:AV) (τ:Store),i≤x.args.length∧m=x.args.length-i∧L.length=i∧dG C e0 x.args (some o6)=(L++(dG C e0 (x.args.drop i) (some o6)).1,(dG C e0 (x.args.drop i) (some o6)).2)∧AU (L.map Ty.cells) y τ∧af=τ++(6,b6,aG.cells (eI C e0 (fx (some o6))))::(4,b4,aG.cells [iv 0,dM,sv s0])::(2,b2,aG.cells (eI C e0 (fx (some o6))))::σ∧rg=[(2,.lp 2 b2 0),(3,.pc x.lay),(4,.lp 4 b4 0),(6,.lp 6 b6 0),(9,y),(45,.sl false 12 (x.args.map Ex.row)),(46,iv x.args.length),(47,iv i)]) x.args.length rfl ⟨_,_,Zr,Zs,0,[],_,_,Z1 _,rfl,rfl,rfl,.inl ⟨rfl,rfl,rfl⟩,rfl,rfl⟩ ?_
  rintro m _ _ ⟨i,L,y,τ,hi,hm,hL,gR,hG,rfl,rfl⟩
  have hW:=Fw hG
  have fh:=fun(h:L.length=x.args.length)=>(ik L h).wk (.cons (.refl _) (.cons (.refl _) (.cons hW .nil)))
  have hA:=hA0 i
  have hd:=fun(h:i<x.args.length) TB=>zE C e0 h TB
  have Ms:=hG
  rcases hG with⟨hE,rfl,rfl⟩|⟨b7,u7,c7,rfl,rfl⟩
  all_goals
   repeat'(first|exact .nil|refine .k0 ?_|refine .k1 ?_|refine .k2 ?_|refine .k3 ?_|refine .k6 ?_|refine .k7 ?_|refine .k8 ?_|refine .k9 ?_|(refine .cd ?_ ?_<;>(intro hc;skip))|refine .r1 ?_ ?_|(refine .l1 ?_;intro b)|refine .t1 ?_ ?_ ?_|refine .u1 ?_ ?_ ?_ (fun b u c=> ?_)|refine .u2 ?_ ?_ ?_ (fun b u c=> ?_)|refine .an rfl (by intro aq;first|exact jl _|exact hA (by(simp only[BL]at *;omega))|exact hB) ?_ ?_|(show List.all _ _=true;rfl)|fail)
   try any_goals(exact Zo)
   all_goals(try simp only[BL]at *)
   all_goals try(refine A5 rfl (Ir _) (fun _=>fh (by omega)) OB.nil ?_)
   all_goals repeat'(first|exact .nil|refine .k0 ?_|refine .k1 ?_|refine .k7 ?_|refine .r1 ?_ ?_|fail)
   all_goals try any_goals(fail)
   all_goals(try simp only[BL]at *)
   all_goals try(show _≤1000000;simp only[Z8,Z5];omega)
   all_goals try(show _ * _≤_;simp only[Z7,Z8,Z5];omega)
   all_goals first
    |(show Sx.Fin _ _ _ _
      have bp:i<x.args.length:=by omega
      rw[gR,hd bp,Z3 hc,x7 hc];exact Zw;done)
    |(show Sx.Fin _ _ _ _
      have bp:i=x.args.length:=by omega
      subst bp
      rw[gR,Y2,dG,x8];exact Zw;done)
    |(have bp:i<x.args.length:=by omega
      refine⟨m-1,by omega,_,[(66,b,.tail u c)]++(6,b6,aG.cells (eI C e0 (fx (some o6))))::(4,b4,aG.cells [iv 0,dM,sv s0])::(2,b2,aG.cells (eI C e0 (fx (some o6))))::σ,Zr,Zs,i+1,L++[(inf C e0 (x.args.getD i default) (some o6)).1],_,_,by omega,by omega,by simp[hL],?_,.inr ⟨b,u,c,?_,rfl⟩,rfl,by rw[aO (n:=50) (by omega) (by decide)]⟩
      ·rw[gR,hd bp,Z6 (by rw[hc];simp)];simp
      ·rw[Zz];first|rfl|(rw[hE];rfl))
theorem adB(hT:mP)(hO:mO)(C:az)(e0:ae)(x:Ex)(ih:∀ i,i<x.args.length→xE C e0 (x.args.getD i default))(hf:form false x=true)(hk:x.kind=5):Pure prog 98 [.agg (eI C e0 (fx none)),.agg x.row] (eF (inf C e0 x none)):=by
 have nj:=q9 hf
 have hB:=Qd C e0 none x.kind (by omega)
 have ik:=Qc hT hO C e0 none x hf
 have FT:x.args.length≤3:=by omega
 have tn:∀ i,i<x.args.length→form true (x.args.getD i default)=true:=fun i hi=>by
  have:=((lD _ x).1 hf).2.2.1 _ (bu hi)
  rwa [Zd hk,Bool.or_true]at this
 have hA0:=fun(o6:aP) (i:Nat) (h:i<x.args.length)=>ih i h (some o6) (tn i h)
 have hi:=adw C.tables x
 rw[CC]
 rcases aca (fs:=C.tables) (n:=x.table)with⟨h1,h2⟩|⟨i0,h0,h2,h1⟩
 ·have dq:lK C e0 none x=(none,4):=by unfold lK;rw[Z3 hk,h1]
  rw[dq,show mq C e0 none x 4 (dG C e0 x.args none)=(cC,4)from Z3 (by simp)]
  rw[h2]at hi
  simp only[Ex.bP x]at ik hi ⊢
  refine CJ.p fun σ=> ?_
  refine .k1 ?_
  refine .k2 ?_
  repeat'((fail_if_success (show WK _ _ _ _ _ _ _ _));(first|exact .nil|refine .k0 ?_|refine .k1 ?_|refine .r1 ?_ ?_|(refine .l1 ?_;intro b)|(refine .m1 ?_ ?_;intro b)|fail))
  refine .k0 ?_
  rename_i b2 b3
  refine sF 3 b3 (.there .here) (.same (.p0 (.same .nil))) ?_
  repeat'(first|exact .nil|refine .k0 ?_|refine .k1 ?_|refine .k2 ?_|refine .k6 ?_|refine .k7 ?_|refine .k9 ?_|(refine .cd ?_ ?_<;>(intro hc;skip))|refine .r1 ?_ ?_|(refine .l1 ?_;intro b)|(refine .m2 ?_ ?_;intro hlen)|refine .t1 ?_ ?_ ?_|refine .an rfl (by intro aq;first|exact hi|exact jl _|fail) ?_ ?_|fail)
  try any_goals(exact Zo)
  all_goals(try simp only[BL]at *)
  all_goals first|(exfalso;omega)|(show Sx.Fin _ _ _ _;(refine Sx.Fin.wk Zs ?_;repeat' first|exact .refl _|fail);done)
 by_cases B5:(C.tables.getD i0 default).cv=e0
 rotate_left
 ·have dq:lK C e0 none x=(none,5):=by unfold lK;rw[Z3 hk,h1];exact Z6 B5
  rw[dq,show mq C e0 none x 5 (dG C e0 x.args none)=(cC,5)from Z3 (by simp)]
  rw[h2]at hi
  simp only[Ex.bP x]at ik hi ⊢
  refine CJ.p fun σ=> ?_
  refine .k1 ?_
  refine .k2 ?_
  repeat'((fail_if_success (show WK _ _ _ _ _ _ _ _));(first|exact .nil|refine .k0 ?_|refine .k1 ?_|refine .r1 ?_ ?_|(refine .l1 ?_;intro b)|(refine .m1 ?_ ?_;intro b)|fail))
  refine .k0 ?_
  rename_i b2 b3
  refine sF 3 b3 (.there .here) (.same (.p0 (.same .nil))) ?_
  repeat'(first|exact .nil|refine .k0 ?_|refine .k1 ?_|refine .k2 ?_|refine .k6 ?_|refine .k7 ?_|refine .k9 ?_|(refine .cd ?_ ?_<;>(intro hc;skip))|refine .r1 ?_ ?_|(refine .l1 ?_;intro b)|(refine .m2 ?_ ?_;intro hlen)|refine .t1 ?_ ?_ ?_|refine .an rfl (by intro aq;first|exact hi|exact jl _|fail) ?_ ?_|fail)
  try any_goals(exact Zo)
  all_goals(try simp only[BL]at *)
  all_goals first|(exfalso;omega)|(exfalso;exact B5 hc)|(show Sx.Fin _ _ _ _;(refine Sx.Fin.wk Zs ?_;repeat' first|exact .refl _|fail);done)
 have dq:lK C e0 none x=(some (C.tables.getD i0 default),0):=by unfold lK;rw[Z3 hk,h1];exact Z3 B5
 rw[dq]
 rw[h2]at hi
 simp only[Ex.bP x]at ik hi ⊢
 have hA0:=hA0 (C.tables.getD i0 default)
 refine CJ.p fun σ=> ?_
 refine .k1 ?_
 refine .k2 ?_
 repeat'((fail_if_success (show WK _ _ _ _ _ _ _ _));(first|exact .nil|refine .k0 ?_|refine .k1 ?_|refine .r1 ?_ ?_|(refine .l1 ?_;intro b)|(refine .m1 ?_ ?_;intro b)|fail))
 refine .k0 ?_
 rename_i b2 b3
 rename Nat=>b4
 refine sF 3 b3 (.there .here) (.same (.p0 (.same .nil))) ?_
 repeat'((fail_if_success (show WK _ _ _ _ (.bY [2,3,4,6,8] _) _ _ _));(first|exact .nil|refine .k0 ?_|refine .k1 ?_|refine .k2 ?_|refine .k6 ?_|refine .k7 ?_|refine .k9 ?_|(refine .cd ?_ ?_<;>(intro hc;skip))|refine .r1 ?_ ?_|(refine .l1 ?_;intro b)|(refine .m2 ?_ ?_;intro hlen)|refine .t1 ?_ ?_ ?_|refine .an rfl (by intro aq;first|exact hi|exact jl _|fail) ?_ ?_|fail))
 try any_goals(exact Zo)
 all_goals(try simp only[BL]at *)
 ·exfalso;omega
 rotate_left
 ·exfalso;exact hc hk
 refine .k0 ?_
 rename_i b6 _
 refine sF 8 b .here (.same (.same (.same (.same (.p0 .nil))))) ?_
 repeat'(first|exact .nil|refine .k0 ?_|refine .k1 ?_|refine .k2 ?_|refine .k6 ?_|refine .k7 ?_|refine .k9 ?_|(refine .cd ?_ ?_<;>(intro hc;skip))|refine .r1 ?_ ?_|(refine .m2 ?_ ?_;intro hlen)|refine .an rfl (by intro aq;first|exact jl _|fail) ?_ ?_|fail)
 all_goals(try simp only[BL]at *)
 ·exfalso;exact hc B5
 refine aH (fun m rg af=>∃ (i:Nat) (L:List Ty) (y:AV) (τ:Store),i≤x.args.length∧m=x.args.length-i∧L.length=i∧dG C e0 x.args (some (C.tables.getD i0 default))=(L++(dG C e0 (x.args.drop i) (some (C.tables.getD i0 default))).1,(dG C e0 (x.args.drop i) (some (C.tables.getD i0 default))).2)∧AU (L.map Ty.cells) y τ∧af=τ++(6,b6,aG.cells (eI C e0 (fx (some (C.tables.getD i0 default)))))::(4,b4,aG.cells [iv 0,dM,sv s0])::(2,b2,aG.cells (eI C e0 (fx none)))::σ∧rg=[(2,.lp 2 b2 0),(3,.pc x.lay),(4,.lp 4 b4 0),(6,.lp 6 b6 0),(9,y),(45,.sl false 12 (x.args.map Ex.row)),(46,iv x.args.length),(47,iv i)]) x.args.length rfl ⟨_,_,Zr,Zs,0,[],_,_,Z1 _,rfl,rfl,rfl,.inl ⟨rfl,rfl,rfl⟩,rfl,rfl⟩ ?_
 rintro m _ _ ⟨i,L,y,τ,hi,hm,hL,gR,hG,rfl,rfl⟩
 have hW:=Fw hG
 have fh:=fun(h:L.length=x.args.length)=>(ik L h).wk (.cons (.refl _) (.cons (.refl _) (.cons hW .nil)))
 have hA:=hA0 i
 have hd:=fun(h:i<x.args.length) TB=>zE C e0 h TB
 have Ms:=hG
 rcases hG with⟨hE,rfl,rfl⟩|⟨b7,u7,c7,rfl,rfl⟩
 all_goals
  repeat'(first|exact .nil|refine .k0 ?_|refine .k1 ?_|refine .k2 ?_|refine .k3 ?_|refine .k6 ?_|refine .k7 ?_|refine .k8 ?_|refine .k9 ?_|(refine .cd ?_ ?_<;>(intro hc;skip))|refine .r1 ?_ ?_|(refine .l1 ?_;intro b)|refine .t1 ?_ ?_ ?_|refine .u1 ?_ ?_ ?_ (fun b u c=> ?_)|refine .u2 ?_ ?_ ?_ (fun b u c=> ?_)|refine .an rfl (by intro aq;first|exact jl _|exact hA (by(simp only[BL]at *;omega))|exact hB) ?_ ?_|(show List.all _ _=true;rfl)|fail)
  try any_goals(exact Zo)
  all_goals(try simp only[BL]at *)
  all_goals try(refine A5 rfl (Ir _) (fun _=>fh (by omega)) OB.nil ?_)
  all_goals repeat'(first|exact .nil|refine .k0 ?_|refine .k1 ?_|refine .k7 ?_|refine .r1 ?_ ?_|fail)
  all_goals try any_goals(fail)
  all_goals(try simp only[BL]at *)
  all_goals try(show _≤1000000;simp only[Z8,Z5];omega)
  all_goals try(show _ * _≤_;simp only[Z7,Z8,Z5];omega)
  all_goals first
   |(show Sx.Fin _ _ _ _
     have bp:i<x.args.length:=by omega
     rw[gR,hd bp,Z3 hc,x7 hc];exact Zw;done)
   |(show Sx.Fin _ _ _ _
     have bp:i=x.args.length:=by omega
     subst bp
     rw[gR,Y2,dG,x8];exact Zw;done)
   |(have bp:i<x.args.length:=by omega
     refine⟨m-1,by omega,_,[(66,b,.tail u c)]++(6,b6,aG.cells (eI C e0 (fx (some (C.tables.getD i0 default)))))::(4,b4,aG.cells [iv 0,dM,sv s0])::(2,b2,aG.cells (eI C e0 (fx none)))::σ,Zr,Zs,i+1,L++[(inf C e0 (x.args.getD i default) (some (C.tables.getD i0 default))).1],_,_,by omega,by omega,by simp[hL],?_,.inr ⟨b,u,c,?_,rfl⟩,rfl,by rw[aO (n:=50) (by omega) (by decide)]⟩
     ·rw[gR,hd bp,Z6 (by rw[hc];simp)];simp
     ·rw[Zz];first|rfl|(rw[hE];rfl))
theorem NW(hT:mP)(hO:mO)(C:az)(e0:ae):∀ (n:Nat) (x:Ex),x.size≤n→xE C e0 x
 |0,x,h=>by cases x;simp[Ex.size]at h
 |n+1,x,h=>fun tb hf=>by
  have ih:∀ i,i<x.args.length→xE C e0 (x.args.getD i default):=fun i hi=>NW hT hO C e0 n _ (by have:=Ex.Ah x hi;omega)
  by_cases hk:x.kind=5
  ·have h5:tb=none:=by
    rcases q9 hf with h|h|h|h|h|h|h|h|h
    all_goals first|omega|skip
    cases tb with
    |none=>rfl
    |some t=>exact absurd h.2.1 (by simp)
   subst h5
   exact adB hT hO C e0 x ih hf hk
  ·exact adC hT hO C e0 x ih tb hf hk
theorem adD(hT:mP)(hO:mO)(C:az)(e0:ae)(x:Ex):xE C e0 x:=NW hT hO C e0 x.size x (ZR _)
def p3(C:az)(e0:ae)(x:Ex):Ty×Int:=if shape x≠0 then(cC,shape x)else inf C e0 x none
theorem Qq{x:Ex}(h:shape x=0):form false x=true:=by
 unfold shape at h
 split at h
 ·omega
 ·split at h
  ·assumption
  ·omega
theorem adx(hT:mP)(hO:mO)(C:az)(e0:ae)(x:Ex)(hs:x.size≤100000):Pure prog 63 [.agg C.cells,sv e0,.agg x.row] (eF (p3 C e0 x)):=by
 have hS:=Ae x hs
 have hI:=fun(h:shape x=0)=>adD hT hO C e0 x none (Qq h)
 unfold p3
 generalize inf C e0 x none=r at *
 generalize shape x=q at *
 refine k63.p fun σ=> ?_
 repeat'(first|exact .nil|refine .k0 ?_|refine .k1 ?_|refine .k2 ?_|refine .k7 ?_|refine .k9 ?_|(refine .cd ?_ ?_<;>(intro hc;skip))|refine .r1 ?_ ?_|(refine .l1 ?_;intro b)|(refine .m1 ?_ ?_;intro b)|refine .an rfl (by intro aq;first|exact hS|exact jl _|exact hI (by(simp only[BL]at *;omega))) ?_ ?_|fail)
 all_goals(try simp only[BL]at *)
 ·rw[Z3 hc];exact Zw
 ·rw[Z6 (by simpa using hc)];exact Zw
end Go.Proofs.YtomhopcnkicknaaGreatDoor
set_option maxHeartbeats 1000000
namespace Go.Proofs.YtomhopcnkicknaaGreatDoor
open _root_.Go.Proofs.Tryz
open Go.Sx Go.Proofs Go.Tb Go.RowKit
def vk(p:ae×Int):Value:= .agg #[.string p.1,.int .i64 p.2]
theorem II(a b:ByteArray):(a == b)=decide (a=b):=by
 obtain⟨a⟩:=a
 obtain⟨b⟩:=b
 rw[Yy]
 show(a == b)=true↔_
 simp
theorem aMQ:prog.stoodInHeld 104=false:=by kernel_rfl
theorem RR(w:World)(p q:ae×Int):(Op.equal 104 (vk p) (vk q)).run prog w= .ok (decide (p=q)) w:=by
 have h0:=underlying104
 have h1:=underlying9
 have h2:=underlying3
 have h3:=aMQ
 have key:∀ d:Nat,(Op.equalIn (d+1+1) 104 (vk p) (vk q)).run prog w= .ok (decide (p=q)) w:=fun d=>by
  simp only[Op.equalIn,vk,Sem.run_bind,aW h0,Result.andThen_ok]
  simp[h3,part,sizeOf,program,isAgg,Op.equalIn,aW h1,aW h2]
  show(if prog.stoodInHeld 104=true then _ else(if(p.fst == q.fst)=false then Result.ok false w else if p.snd=q.snd then Result.ok true w else Result.ok false w))=_
  rw[h3,Z6 (by decide),II]
  obtain⟨a,i⟩:=p
  obtain⟨b,j⟩:=q
  by_cases h:a=b
  ·subst h
   by_cases h':i=j
   ·subst h';simp
   ·simp[h']
  ·simp[h]
 exact key 9998
theorem RQ(w:World)(b:Bool)(p:ae×Int):(Instr.checkKey b 10000 104 (vk p)).run prog w= .ok () w:=by
 have h0:=underlying104
 have h1:=underlying9
 have h2:=underlying3
 have key:∀ d:Nat,(Instr.checkKey b (d+1+1) 104 (vk p)).run prog w= .ok () w:=fun d=>by
  simp only[Instr.checkKey,vk,Sem.run_bind,aW h0,Result.andThen_ok]
  simp[part,sizeOf,program,isAgg,Instr.checkKey,aW h1,aW h2]
 exact key 9998
def vE(vs:List (ae×Int)):List (Value×Nat×AV):=vs.zipIdx.map fun p=>(vk p.1,p.2,.v (.bool true))
theorem aMF(vs:List (ae×Int))(p:ae×Int):vE vs++[(vk p,vs.length,.v (.bool true))]=vE (vs++[p]):=by
 unfold vE;rw[List.zipIdx_append];simp
theorem RS(w:World)(p:ae×Int):∀ (vs:List (ae×Int)) (l:List MapEntry) (k i:Nat),l.map (fun e=>(e.key,e.born))=(vs.zipIdx k).map (fun q=>(vk q.1,q.2))→RL (fun _ _=>none) (vs.map fun _=> .v (.bool true)) (l.map (·.val))→
  ∃ r,(Instr.findAsking 104 (vk p) l i).run prog w= .ok r w∧(p∈vs→∃ j,r=some (j,.bool true))∧(p∉vs→r=none)
 |[],l,k,i,h,_=>by
  have:l=[]:=by simpa using h
  subst this
  exact⟨none,by simp[Instr.findAsking],fun h=>(by cases h),fun _=>rfl⟩
 |v::vs,l,k,i,h,hv=>by
  cases l with
  |nil=>simp at h
  |cons e l=>
   simp only[List.zipIdx_cons,ZC,ZS,YH]at h
   obtain⟨u,us,e1,h2,h3⟩:=RL.bL (x:= .v (.bool true)) (xs:=vs.map fun _=> .v (.bool true)) hv
   simp only[ZC,ZS]at e1
   obtain⟨r,hr,ha,hb⟩:=RS w p vs l (k+1) (i+1) h.2 (by rw[e1.2];exact h3)
   by_cases hp:p=v
   ·subst hp
    refine⟨some (i,.bool true),?_,fun _=>⟨i,rfl⟩,fun h=>absurd (Zv) h⟩
    simp only[Instr.findAsking,h.1.1,Sem.run_bind,RR,Result.andThen_ok,decide_true,YV,Sem.run_pure]
    rw[e1.1,h2.aC]
   ·refine⟨r,?_,fun h=>ha ((ZQ.1 h).resolve_left hp),fun h=>hb fun h'=>h (ZL _ h')⟩
    simp only[Instr.findAsking,h.1.1,Sem.run_bind,RR,Result.andThen_ok,ZA hp,ZG,Za]
    exact hr
section
variable {M:Mem}{w0:Base}{w:World}{σ:Store}
theorem aMG(vs:List (ae×Int)):(vE vs).map (·.2.2)=vs.map fun _=>AV.v (.bool true):=by
 unfold vE
 rw[Yk]
 refine Ys (by simp) fun j h1 h2=>by simp
theorem aME(vs:List (ae×Int)):(vE vs).map (fun e=>(e.1,e.2.1))=vs.zipIdx.map fun q=>(vk q.1,q.2):=by
 unfold vE;rw[Yk];rfl
theorem ahP{vs:List (ae×Int)}{l:List Value}(h:RL M (vs.map fun _=>AV.v (.bool true)) l):RL (fun _ _=>none) (vs.map fun _=>AV.v (.bool true)) l:=by
 refine⟨h.1,fun i h1 h2=> ?_⟩
 have:=h.2 i h1 h2
 simp only[ZF]at this ⊢
 rw[this.aC];exact .v _
theorem aNd(w:World):(zeroValue 4).run prog w= .ok (.bool false) w:=by
 have h:(prog.info? 4).map (fun i=>i.zero)=some (some (.bool false)):=by kernel_rfl
 obtain⟨i,h1,h2⟩:=ZO.1 h
 simp[zeroValue,typeInfo,h1,h2]
theorem RT(w:World)(p:ae×Int){vs:List (ae×Int)}{l:List MapEntry}(h:l.map (fun e=>(e.key,e.born))=(vE vs).map (fun e=>(e.1,e.2.1)))(hv:RL M ((vE vs).map (·.2.2)) (l.map (·.val))):
  ∃ r,(Instr.findKey 104 (vk p) l).run prog w= .ok r w∧(p∈vs→∃ j,r=some (j,.bool true))∧(p∉vs→r=none):=by
 rw[aME]at h
 rw[aMG]at hv
 obtain⟨r,h1,h2,h3⟩:=RS w p vs l 0 0 h (ahP hv)
 refine⟨r,?_,h2,h3⟩
 have hu:=underlying104
 simp only[Instr.findKey,Sem.run_bind,aW hu,Result.andThen_ok]
 cases l with
 |nil=>
  simp only[Instr.findAsking,Sem.run_pure,Result.ok.injEq]at h1
  simp only[Instr.findNow,Sem.run_pure,h1.1]
 |cons e l=>
  have hN:∀ fs,Instr.findNow (.struct fs) (vk p) (e::l) 0=none:=fun _=>rfl
  rw[hN]
  exact h1
def gQ(vs:List (ae×Int))(p:ae×Int):Bool:=vs.any fun q=>decide (q=p)
theorem BV{vs:List (ae×Int)}{p:ae×Int}:gQ vs p=true↔p∈vs:=by
 unfold gQ;rw[YC];simp
theorem Pk{p:ae×Int}{v:Value}(h:R M (.agg [sv p.1,iv p.2]) v):v=vk p:=by
 cases h with
 |agg _ cs hl h=>
  match cs,hl,h with
  |[a,b],_,h=>
   have h0:=h 0 (by simp) (by simp)
   have h1:=h 1 (by simp) (by simp)
   simp only[YR,Yj]at h0 h1
   rw[h0.aC,h1.aC];rfl
theorem SE{tg b dE:Nat}{vs:List (ae×Int)}{t ty:TypeId}{q:TI}{m k:Operand}{p:ae×Int}(hl:bo σ tg=some (b,.map (vE vs) dE)):
  jf prog (.lookup t m k false) ty [.mp 104 4,q] [m,k] [.dc tg b,.agg [sv p.1,iv p.2]] σ fun y af=>y= .v (.bool (gQ vs p))∧af=σ:=by
 intro db M w0 w ρ hI hR
 simp only[fq,ZS,Zk]at db
 have ht:=wU db.1
 obtain⟨v1,dI,e1,h1,fh⟩:=hR.bL
 obtain⟨v2,e2,h2⟩:=fh.eJ
 subst e2
 simp only[ZC,Y5,ZS,Zk]at e1
 obtain⟨hM,l,hh,gS,iy⟩:=hI.s3 hl
 have g1:=h1.tZ
 have g2:=Pk h2
 subst g1 g2
 obtain⟨r,hr,ha,hb⟩:=RT w p gS iy
 refine⟨.value (.bool (gQ vs p)),w,M,.v (.bool (gQ vs p)),.bool (gQ vs p),σ,?_,rfl,Mem.le.refl _,hI,.v _,rfl,rfl⟩
 simp only[execOp,e1.1,e1.2,Instr.lookup,Sem.run_bind,aW ht,Result.andThen_ok,getObj,Sem.run,hh,RQ,hr,Sem.run_pure]
 by_cases hp:p∈vs
 ·obtain⟨j,rfl⟩:=ha hp
  simp[BV.2 hp]
 ·rw[hb hp]
  have:gQ vs p=false:=by rw[← Yi,BV];exact hp
  simp[this,aNd]
theorem SH{tg b:Nat}{vs:List (ae×Int)}{t ty:TypeId}{q:TI}{m k x:Operand}{p:ae×Int}(hl:bo σ tg=some (b,.map (vE vs) vs.length))(hn:gQ vs p=false):
  jf prog (.mapUpdate t m k x) ty [.mp 104 4,q] [m,k,x] [.dc tg b,.agg [sv p.1,iv p.2],.v (.bool true)] σ fun y af=>y= .v undef∧af=eB σ tg b (.map (vE (vs++[p])) (vs++[p]).length):=by
 intro db M w0 w ρ hI hR
 simp only[fq,ZS,Zk]at db
 have ht:=wU db.1
 obtain⟨v1,dI,e1,h1,fh⟩:=hR.bL
 obtain⟨v2,Jj,e2,h2,gP⟩:=fh.bL
 obtain⟨v3,e3,h3⟩:=gP.eJ
 subst e3 e2
 simp only[ZC,Y5,ZS,Zk]at e1
 obtain⟨hM,l,hh,gS,iy⟩:=hI.s3 hl
 have g1:=h1.tZ
 have g2:=Pk h2
 have g3:=h3.aC
 subst g1 g2 g3
 obtain⟨r,hr,ha,hb⟩:=RT w p gS iy
 have hnp:p∉vs:=fun h=>by rw[BV.2 h]at hn;cases hn
 have hrn:=hb hnp
 subst hrn
 let w':World:={w with heap:=w.heap.setIfInBounds b (.map (l++[(⟨vk p,.bool true,vs.length⟩:MapEntry)]).toArray (vs.length+1))}
 have ax:b<w.heap.size:=(Z0.1 hh).1
 refine⟨.skip,w',M,.v undef,undef,_,?_,rfl,Mem.le.refl _,?_,.v _,rfl,rfl⟩
 ·have hu:l.toArray.push (⟨vk p,.bool true,vs.length⟩:MapEntry)=(l++[(⟨vk p,.bool true,vs.length⟩:MapEntry)]).toArray:=by apply YD;simp
  simp only[execOp,e1.1,e1.2.1,e1.2.2,Instr.mapUpdate,Sem.run_bind,aW ht,Result.andThen_ok,getObj,Sem.run,hh,RQ,hr,Sem.run_pure,setObj,hu]
  rfl
 ·rw[Z9,Zg,← aMF]
  refine hI.Aq (w':=w') (y:= .map (vE vs++[(vk p,vs.length,.v (.bool true))]) (vs.length+1)) hl (fun k hk=> ?_) rfl rfl rfl (by simp[w']) hM ⟨hM,l++[⟨vk p,.bool true,vs.length⟩],?_,?_,?_⟩
  ·simp only[w']
   rw[YW (fun e=>hk e.symm)]
  ·simp only[w']
   rw[XZ ax]
  ·simp[gS]
  ·simp only[Zz,ZC,Y5]
   exact RL.append iy (RL.cons (.v _) RL.nil)
end
section
variable {cfg:Nat→Nat}{K:ah→Store→Prop}{E:List PanicEntry→Store→Prop}{σ af:Store}{l:List CI}{d:Nat}{v:AV}{xr:XR}{ps:List Prop}{og:Option Bool}
theorem Er{t:TypeId}{q:TI}{ty:TypeId}{m k:Operand}{tg b b' dE:Nat}{vs:List (ae×Int)}{p:ae×Int}(h:aL xr none [m,k]=some (og,[.dc tg b,.agg [sv p.1,iv p.2]],ps))(hl:bo σ tg=some (b',.map (vE vs) dE))(hb:b=b')(aw:OB ps)
  (kk:VX prog cfg l K E ((d,.s (.v (.bool (gQ vs p))))::xr) σ):VX prog cfg (⟨some d,.bS (.lookup t m k false) ty [.mp 104 4,q] [m,k],none⟩::l) K E xr σ:=by
 obtain⟨hc,he⟩:=cE h
 have cY:=qT h
 subst cY
 subst hb
 constructor
 simp only[fF,dP,ak,he aw rfl]
 refine(SE hl).mono fun y s ⟨e1,e2⟩=> ?_
 subst e1 e2
 exact kk.h
theorem Es{t:TypeId}{q:TI}{ty:TypeId}{m k x:Operand}{tg b b':Nat}{vs:List (ae×Int)}{p:ae×Int}(h:aL xr none [m,k,x]=some (og,[.dc tg b,.agg [sv p.1,iv p.2],.v (.bool true)],ps))(hl:bo σ tg=some (b',.map (vE vs) vs.length))(hb:b=b')(hn:gQ vs p=false)(hu:rX σ tg b (.map (vE (vs++[p])) (vs++[p]).length)=some af)(aw:OB ps)
  (kk:VX prog cfg l K E xr af):VX prog cfg (⟨none,.exts (.mapUpdate t m k x) ty [.mp 104 4,q] [m,k,x],none⟩::l) K E xr σ:=by
 obtain⟨hc,he⟩:=cE h
 have cY:=qT h
 subst cY
 subst hb
 constructor
 simp only[fF,dP,ak,he aw rfl]
 refine(SH hl hn).mono fun y s ⟨e1,e2⟩=> ?_
 rw[Ar hu]at e2
 subst e1 e2
 exact kk.h
end
end Go.Proofs.YtomhopcnkicknaaGreatDoor
set_option maxHeartbeats 16000000
namespace Go.Proofs.YtomhopcnkicknaaGreatDoor
open Go.Sx Go.Proofs Go.Tb
def oq(C:az)(f:aj):Int:=
 if¬(Name f.name∧Name f.cv)∨f.version<0 then 3 else if dO f.type≠0 then dO f.type
 else if(p3 C f.cv f.body).2≠0 then(p3 C f.cv f.body).2 else(nP (p3 C f.cv f.body).1 f.type).2
theorem abH(hT:mP)(hO:mO)(C:az)(f:aj)(hs:f.body.size≤100000):Pure Tryz.prog 30 [.agg C.cells,.agg f.cells] (iv (oq C f)):=by
 have hI:=adx hT hO C f.cv f.body hs
 unfold oq
 generalize p3 C f.cv f.body=r at *
 refine k30.p fun σ=> ?_
 repeat'(first|exact .nil|refine .k0 ?_|refine .k1 ?_|refine .k2 ?_|refine .k4 ?_|refine .k7 ?_|refine .k9 ?_|(refine .cd ?_ ?_<;>(intro hc;skip))|refine .r1 ?_ ?_|(refine .l1 ?_;intro b)|(refine .m1 ?_ ?_;intro b)|refine .an rfl (by intro aq;first|exact oW _|exact uo _|exact hI|exact Iz _ _) ?_ ?_|fail)
 try any_goals(exact Zo)
 all_goals(try simp only[BL]at *)
 all_goals
  refine Sx.Fin.intro Zs (bi ?_)
  grind
def dW(f:aj):Int:=if¬(Name f.name∧Name f.cv)∨f.version<1∨f.version>1099511627776 then 1 else if dO f.type≠0 then dO f.type else shape f.body
def fB(n:Nat)(p:Option ae)(s:ae):Prop:=match p with
 |none=>False
 |some q=>ct s q=true∨(n<2∧s=q)
instance (n:Nat)(p:Option ae)(s:ae):Decidable (fB n p s):=by unfold fB;split<;>infer_instance
def dy(n:Nat):Option ae→List aj→List (ae×Int)→Int×List (ae×Int)
 |_,[],vs=>(0,vs)
 |p,f::l,vs=>if dW f≠0 then(dW f,vs)else if fB n p f.name then(1,vs)else if gQ vs (f.name,f.version)=true then(121,vs)else dy n (some f.name) l (vs++[(f.name,f.version)])
def LL(C:az)(n:Nat):List aj:=if n=0 then C.features else if n=1 then C.bn else C.past
def pb(C:az):Nat→Nat→List (ae×Int)→Int
 |0,_,_=>0
 |k+1,n,vs=>if(dy n none (LL C n) vs).1≠0 then(dy n none (LL C n) vs).1 else pb C k (n+1) (dy n none (LL C n) vs).2
def gW(C:az):Int:=pb C 3 0 []
def fC(l:List aj)(i:Nat):Option ae:=if i=0 then none else some (l.getD (i-1) default).name
theorem DL(n:Nat){l:List aj}{i:Nat}(hi:i<l.length)(vs:List (ae×Int)):dy n (fC l i) (l.drop i) vs=
  if dW (l.getD i default)≠0 then(dW (l.getD i default),vs)else if fB n (fC l i) (l.getD i default).name then(1,vs)else if gQ vs ((l.getD i default).name,(l.getD i default).version)=true then(121,vs)else dy n (fC l (i+1)) (l.drop (i+1)) (vs++[((l.getD i default).name,(l.getD i default).version)]):=by
 have e:l.drop i=l.getD i default::l.drop (i+1):=by rw[getD_eq hi,X7]
 rw[e,dy];rfl
theorem HZ{n:Nat}{l:List aj}{i:Nat}{s:ae}(hi:i≤maxLen):(0<(i:Int)∧(Op.bytesLess (ByteArray.toList s) (ByteArray.toList (l.getD (IntKind.i64.wrap ((i:Int)-1)).toNat default).name)=true∨(n:Int)<2∧s=(l.getD (IntKind.i64.wrap ((i:Int)-1)).toNat default).name))↔fB n (fC l i) s:=by
 unfold fC
 by_cases h0:i=0
 ·subst h0;rw[Z3 rfl];unfold fB;simp
 ·rw[Z6 h0]
  have e:(IntKind.i64.wrap ((i:Int)-1)).toNat=i-1:=by unfold maxLen at hi;rw[aM (by omega)];omega
  rw[e]
  unfold fB ct
  simp only[]
  constructor
  ·rintro⟨_,h|⟨h,h'⟩⟩
   ·exact .inl h
   ·exact .inr ⟨by omega,h'⟩
  ·rintro(h|⟨h,h'⟩)
   ·exact⟨by omega,.inl h⟩
   ·exact⟨by omega,.inr ⟨by omega,h'⟩⟩
theorem aMP(C:az)(hz:∀ n,∀ f∈LL C n,f.body.size≤100000):Pure Tryz.prog 29 [.agg C.cells] (iv (gW C)):=by
 refine N8.p fun σ=> ?_
 repeat'(first|exact .nil|refine .k0 ?_|refine .k1 ?_|refine .k2 ?_|refine .k6 ?_|refine .r1 ?_ ?_|(refine .m1 ?_ ?_;intro b)|(refine .m3 ?_ ?_;intro hlen)|(refine .l3 ?_;intro b)|fail)
 all_goals(try simp only[BL]at *)
 ·show 3≤1000000;decide
 rename Nat=>b1
 refine aH (fun m rg af=>∃ (n:Nat) (vs:List (ae×Int)),n≤3∧m=3-n∧gW C=pb C (3-n) n vs∧af=(11,b1,.map (vE vs) vs.length)::σ∧rg=[(3,.dc 11 b1),(18,.sl true 1 [[.sl false 18 (C.features.map aj.cells)],[.sl false 18 (C.bn.map aj.cells)],[.sl false 18 (C.past.map aj.cells)]]),(19,iv (3:Nat)),(20,iv n)]) 3 rfl ⟨_,_,Zr,.same (.cons (.refl _)),0,[],by omega,rfl,rfl,rfl,rfl⟩ ?_
 rintro m _ _ ⟨n,vs,hn,hm,hv,rfl,rfl⟩
 have vQ:n=0∨n=1∨n=2∨n=3:=by omega
 rcases vQ with rfl|rfl|rfl|rfl
 ·have gD:gW C=if(dy 0 none C.features vs).1≠0 then(dy 0 none C.features vs).1 else pb C 2 (0+1) (dy 0 none C.features vs).2:=hv
  have dt:∀ f∈C.features,f.body.size≤100000:=hz 0
  repeat'(first|exact .nil|refine .k0 ?_|refine .k1 ?_|refine .k2 ?_|refine .k6 ?_|refine .k7 ?_|refine .k8 ?_|refine .k9 ?_|(refine .cd ?_ ?_<;>(intro hc;skip))|refine .r1 ?_ ?_|(refine .m2 ?_ ?_;intro hlen)|refine .r8 ?_ ?_|fail)
  all_goals(try simp only[BL]at *)
  ·exact⟨trivial,by decide,by show _<((3:Nat):Int);decide⟩
  rotate_left
  ·exfalso;exact hc (by decide)
  refine aH (fun m rg af=>∃ (i:Nat) (dI:List (ae×Int)),i≤C.features.length∧m=C.features.length-i∧dy 0 none C.features vs=dy 0 (fC C.features i) (C.features.drop i) dI∧af=(11,b1,.map (vE dI) dI.length)::σ∧rg=[(3,.dc 11 b1),(4,iv (0:Nat)),(5,.sl false 18 (C.features.map aj.cells)),(18,.sl true 1 [[.sl false 18 (C.features.map aj.cells)],[.sl false 18 (C.bn.map aj.cells)],[.sl false 18 (C.past.map aj.cells)]]),(19,iv (3:Nat)),(20,iv (0:Nat)),(25,.sl false 18 (C.features.map aj.cells)),(26,iv C.features.length),(27,iv i)]) C.features.length rfl ⟨_,_,Zr,Zs,0,vs,Z1 _,rfl,rfl,rfl,rfl⟩ ?_
  rintro m2 _ _ ⟨i,dI,hi,js,hL,rfl,rfl⟩
  have hd:=fun(h:i<C.features.length)=>DL 0 h dI
  have yn:=fun(h:i<C.features.length)=>Ae (C.features.getD i default).body (dt _ (bu h))
  have bp:i≤maxLen:=by omega
  have jR:=HZ (n:=0) (l:=C.features) (i:=i) (s:=(C.features.getD i default).name) bp
  have key:∀ e:Int,e≠0→dy 0 (fC C.features i) (C.features.drop i) dI=(e,dI)→gW C=e:=fun e h1 h2=>by
   rw[gD,hL,h2,Z3 h1]
  repeat'(first|exact .nil|refine .k0 ?_|refine .k1 ?_|refine .k2 ?_|refine .k3 ?_|refine .k4 ?_|refine .k5 ?_|refine .k6 ?_|refine .k7 ?_|refine .k8 ?_|refine .k9 ?_|(refine .cd ?_ ?_<;>(intro hc;skip))|refine .r1 ?_ ?_|(refine .l1 ?_;intro b)|refine .t1 ?_ ?_ ?_|refine .an rfl (by intro aq;first|exact oW _|exact uo _|exact yn (by(simp only[BL]at *;omega))) ?_ ?_|fail)
  try any_goals(exact Zo)
  all_goals(try simp only[BL]at *)
  ·have ho:dW (C.features.getD i default)=1:=Z3 (by grind)
   rw[key 1 (by decide) (by rw[hd (by omega),ho,Z3 (by decide)])]
   exact Zw
  ·have ho:dW (C.features.getD i default)=dO (C.features.getD i default).type:=(Z6 (by grind)).trans (Z3 hc)
   rw[key _ hc (by rw[hd (by omega),ho,Z3 hc])]
   exact Zw
  ·have ho:dW (C.features.getD i default)=shape (C.features.getD i default).body:=(Z6 (by grind)).trans (Z6 (by grind))
   rw[key _ hc (by rw[hd (by omega),ho,Z3 hc])]
   exact Zw
  ·have ho:dW (C.features.getD i default)=0:=(Z6 (by grind)).trans ((Z6 (by grind)).trans (by grind))
   rw[key 1 (by decide) (by rw[hd (by omega),ho,Z6 (by decide),Z3 (jR.1 hc)])]
   exact Zw
  ·have ho:dW (C.features.getD i default)=0:=(Z6 (by grind)).trans ((Z6 (by grind)).trans (by grind))
   have kN:¬fB 0 (fC C.features i) (C.features.getD i default).name:=fun h=>by
    have h2:=jR.2 h
    rcases hc with hc|⟨cW,dj⟩
    ·exact hc h2.1
    ·rcases h2.2 with h3|h3
     ·rw[cW]at h3;cases h3
     ·rcases dj with h4|h4
      ·exact h4 h3.1
      ·exact h4 h3.2
   refine Er (p:=((C.features.getD i default).name,(C.features.getD i default).version)) rfl rfl rfl OB.nil ?_
   repeat'(first|exact .nil|refine .k0 ?_|refine .k1 ?_|refine .k2 ?_|refine .k7 ?_|refine .k9 ?_|(refine .cd ?_ ?_<;>(intro hc;skip))|refine .r1 ?_ ?_|fail)
   all_goals(try simp only[BL]at *)
   ·rw[key 121 (by decide) (by rw[hd (by omega),ho,Z6 (by decide),Z6 kN,Z3 hc])]
    exact Zw
   ·refine Es (p:=((C.features.getD i default).name,(C.features.getD i default).version)) rfl rfl rfl hc rfl OB.nil ?_
    repeat'(first|exact .nil|refine .k0 ?_|refine .k1 ?_|refine .k2 ?_|refine .r1 ?_ ?_|fail)
    all_goals(try simp only[BL]at *)
    refine⟨m2-1,by omega,_,_,Zr,Zs,i+1,_,by omega,by omega,?_,rfl,by rw[aO (n:=C.features.length) (by omega) (by assumption)]⟩
    rw[hL,hd (by omega),ho,Z6 (by decide),Z6 kN,Z6 (by rw[hc];decide)]
  ·intro h;unfold maxLen at bp;rw[aM (by omega)];omega
  ·intro h;unfold maxLen at bp;rw[aM (by omega)];omega
  ·have yK:i=C.features.length:=by omega
   subst yK
   rw[Y2,dy]at hL
   refine⟨2-0,by omega,_,_,Zr,Zs,0+1,dI,by omega,by omega,?_,rfl,by rw[aO (n:=5) (by omega) (by decide)]⟩
   rw[gD,hL,Z6 (by simp)]
 ·have gD:gW C=if(dy 1 none C.bn vs).1≠0 then(dy 1 none C.bn vs).1 else pb C 1 (1+1) (dy 1 none C.bn vs).2:=hv
  have dt:∀ f∈C.bn,f.body.size≤100000:=hz 1
  repeat'(first|exact .nil|refine .k0 ?_|refine .k1 ?_|refine .k2 ?_|refine .k6 ?_|refine .k7 ?_|refine .k8 ?_|refine .k9 ?_|(refine .cd ?_ ?_<;>(intro hc;skip))|refine .r1 ?_ ?_|(refine .m2 ?_ ?_;intro hlen)|refine .r8 ?_ ?_|fail)
  all_goals(try simp only[BL]at *)
  ·exact⟨trivial,by decide,by show _<((3:Nat):Int);decide⟩
  rotate_left
  ·exfalso;exact hc (by decide)
  refine aH (fun m rg af=>∃ (i:Nat) (dI:List (ae×Int)),i≤C.bn.length∧m=C.bn.length-i∧dy 1 none C.bn vs=dy 1 (fC C.bn i) (C.bn.drop i) dI∧af=(11,b1,.map (vE dI) dI.length)::σ∧rg=[(3,.dc 11 b1),(4,iv (1:Nat)),(5,.sl false 18 (C.bn.map aj.cells)),(18,.sl true 1 [[.sl false 18 (C.features.map aj.cells)],[.sl false 18 (C.bn.map aj.cells)],[.sl false 18 (C.past.map aj.cells)]]),(19,iv (3:Nat)),(20,iv (1:Nat)),(25,.sl false 18 (C.bn.map aj.cells)),(26,iv C.bn.length),(27,iv i)]) C.bn.length rfl ⟨_,_,Zr,Zs,0,vs,Z1 _,rfl,rfl,rfl,rfl⟩ ?_
  rintro m2 _ _ ⟨i,dI,hi,js,hL,rfl,rfl⟩
  have hd:=fun(h:i<C.bn.length)=>DL 1 h dI
  have yn:=fun(h:i<C.bn.length)=>Ae (C.bn.getD i default).body (dt _ (bu h))
  have bp:i≤maxLen:=by omega
  have jR:=HZ (n:=1) (l:=C.bn) (i:=i) (s:=(C.bn.getD i default).name) bp
  have key:∀ e:Int,e≠0→dy 1 (fC C.bn i) (C.bn.drop i) dI=(e,dI)→gW C=e:=fun e h1 h2=>by
   rw[gD,hL,h2,Z3 h1]
  repeat'(first|exact .nil|refine .k0 ?_|refine .k1 ?_|refine .k2 ?_|refine .k3 ?_|refine .k4 ?_|refine .k5 ?_|refine .k6 ?_|refine .k7 ?_|refine .k8 ?_|refine .k9 ?_|(refine .cd ?_ ?_<;>(intro hc;skip))|refine .r1 ?_ ?_|(refine .l1 ?_;intro b)|refine .t1 ?_ ?_ ?_|refine .an rfl (by intro aq;first|exact oW _|exact uo _|exact yn (by(simp only[BL]at *;omega))) ?_ ?_|fail)
  try any_goals(exact Zo)
  all_goals(try simp only[BL]at *)
  ·have ho:dW (C.bn.getD i default)=1:=Z3 (by grind)
   rw[key 1 (by decide) (by rw[hd (by omega),ho,Z3 (by decide)])]
   exact Zw
  ·have ho:dW (C.bn.getD i default)=dO (C.bn.getD i default).type:=(Z6 (by grind)).trans (Z3 hc)
   rw[key _ hc (by rw[hd (by omega),ho,Z3 hc])]
   exact Zw
  ·have ho:dW (C.bn.getD i default)=shape (C.bn.getD i default).body:=(Z6 (by grind)).trans (Z6 (by grind))
   rw[key _ hc (by rw[hd (by omega),ho,Z3 hc])]
   exact Zw
  ·have ho:dW (C.bn.getD i default)=0:=(Z6 (by grind)).trans ((Z6 (by grind)).trans (by grind))
   rw[key 1 (by decide) (by rw[hd (by omega),ho,Z6 (by decide),Z3 (jR.1 hc)])]
   exact Zw
  ·have ho:dW (C.bn.getD i default)=0:=(Z6 (by grind)).trans ((Z6 (by grind)).trans (by grind))
   have kN:¬fB 1 (fC C.bn i) (C.bn.getD i default).name:=fun h=>by
    have h2:=jR.2 h
    rcases hc with hc|⟨cW,dj⟩
    ·exact hc h2.1
    ·rcases h2.2 with h3|h3
     ·rw[cW]at h3;cases h3
     ·rcases dj with h4|h4
      ·exact h4 h3.1
      ·exact h4 h3.2
   refine Er (p:=((C.bn.getD i default).name,(C.bn.getD i default).version)) rfl rfl rfl OB.nil ?_
   repeat'(first|exact .nil|refine .k0 ?_|refine .k1 ?_|refine .k2 ?_|refine .k7 ?_|refine .k9 ?_|(refine .cd ?_ ?_<;>(intro hc;skip))|refine .r1 ?_ ?_|fail)
   all_goals(try simp only[BL]at *)
   ·rw[key 121 (by decide) (by rw[hd (by omega),ho,Z6 (by decide),Z6 kN,Z3 hc])]
    exact Zw
   ·refine Es (p:=((C.bn.getD i default).name,(C.bn.getD i default).version)) rfl rfl rfl hc rfl OB.nil ?_
    repeat'(first|exact .nil|refine .k0 ?_|refine .k1 ?_|refine .k2 ?_|refine .r1 ?_ ?_|fail)
    all_goals(try simp only[BL]at *)
    refine⟨m2-1,by omega,_,_,Zr,Zs,i+1,_,by omega,by omega,?_,rfl,by rw[aO (n:=C.bn.length) (by omega) (by assumption)]⟩
    rw[hL,hd (by omega),ho,Z6 (by decide),Z6 kN,Z6 (by rw[hc];decide)]
  ·intro h;unfold maxLen at bp;rw[aM (by omega)];omega
  ·intro h;unfold maxLen at bp;rw[aM (by omega)];omega
  ·have yK:i=C.bn.length:=by omega
   subst yK
   rw[Y2,dy]at hL
   refine⟨2-1,by omega,_,_,Zr,Zs,1+1,dI,by omega,by omega,?_,rfl,by rw[aO (n:=5) (by omega) (by decide)]⟩
   rw[gD,hL,Z6 (by simp)]
 ·have gD:gW C=if(dy 2 none C.past vs).1≠0 then(dy 2 none C.past vs).1 else pb C 0 (2+1) (dy 2 none C.past vs).2:=hv
  have dt:∀ f∈C.past,f.body.size≤100000:=hz 2
  repeat'(first|exact .nil|refine .k0 ?_|refine .k1 ?_|refine .k2 ?_|refine .k6 ?_|refine .k7 ?_|refine .k8 ?_|refine .k9 ?_|(refine .cd ?_ ?_<;>(intro hc;skip))|refine .r1 ?_ ?_|(refine .m2 ?_ ?_;intro hlen)|refine .r8 ?_ ?_|fail)
  all_goals(try simp only[BL]at *)
  ·exact⟨trivial,by decide,by show _<((3:Nat):Int);decide⟩
  rotate_left
  ·exfalso;exact hc (by decide)
  refine aH (fun m rg af=>∃ (i:Nat) (dI:List (ae×Int)),i≤C.past.length∧m=C.past.length-i∧dy 2 none C.past vs=dy 2 (fC C.past i) (C.past.drop i) dI∧af=(11,b1,.map (vE dI) dI.length)::σ∧rg=[(3,.dc 11 b1),(4,iv (2:Nat)),(5,.sl false 18 (C.past.map aj.cells)),(18,.sl true 1 [[.sl false 18 (C.features.map aj.cells)],[.sl false 18 (C.bn.map aj.cells)],[.sl false 18 (C.past.map aj.cells)]]),(19,iv (3:Nat)),(20,iv (2:Nat)),(25,.sl false 18 (C.past.map aj.cells)),(26,iv C.past.length),(27,iv i)]) C.past.length rfl ⟨_,_,Zr,Zs,0,vs,Z1 _,rfl,rfl,rfl,rfl⟩ ?_
  rintro m2 _ _ ⟨i,dI,hi,js,hL,rfl,rfl⟩
  have hd:=fun(h:i<C.past.length)=>DL 2 h dI
  have yn:=fun(h:i<C.past.length)=>Ae (C.past.getD i default).body (dt _ (bu h))
  have bp:i≤maxLen:=by omega
  have jR:=HZ (n:=2) (l:=C.past) (i:=i) (s:=(C.past.getD i default).name) bp
  have key:∀ e:Int,e≠0→dy 2 (fC C.past i) (C.past.drop i) dI=(e,dI)→gW C=e:=fun e h1 h2=>by
   rw[gD,hL,h2,Z3 h1]
  repeat'(first|exact .nil|refine .k0 ?_|refine .k1 ?_|refine .k2 ?_|refine .k3 ?_|refine .k4 ?_|refine .k5 ?_|refine .k6 ?_|refine .k7 ?_|refine .k8 ?_|refine .k9 ?_|(refine .cd ?_ ?_<;>(intro hc;skip))|refine .r1 ?_ ?_|(refine .l1 ?_;intro b)|refine .t1 ?_ ?_ ?_|refine .an rfl (by intro aq;first|exact oW _|exact uo _|exact yn (by(simp only[BL]at *;omega))) ?_ ?_|fail)
  try any_goals(exact Zo)
  all_goals(try simp only[BL]at *)
  ·have ho:dW (C.past.getD i default)=1:=Z3 (by grind)
   rw[key 1 (by decide) (by rw[hd (by omega),ho,Z3 (by decide)])]
   exact Zw
  ·have ho:dW (C.past.getD i default)=dO (C.past.getD i default).type:=(Z6 (by grind)).trans (Z3 hc)
   rw[key _ hc (by rw[hd (by omega),ho,Z3 hc])]
   exact Zw
  ·have ho:dW (C.past.getD i default)=shape (C.past.getD i default).body:=(Z6 (by grind)).trans (Z6 (by grind))
   rw[key _ hc (by rw[hd (by omega),ho,Z3 hc])]
   exact Zw
  ·have ho:dW (C.past.getD i default)=0:=(Z6 (by grind)).trans ((Z6 (by grind)).trans (by grind))
   rw[key 1 (by decide) (by rw[hd (by omega),ho,Z6 (by decide),Z3 (jR.1 hc)])]
   exact Zw
  ·have ho:dW (C.past.getD i default)=0:=(Z6 (by grind)).trans ((Z6 (by grind)).trans (by grind))
   have kN:¬fB 2 (fC C.past i) (C.past.getD i default).name:=fun h=>by
    have h2:=jR.2 h
    rcases hc with hc|⟨cW,dj⟩
    ·exact hc h2.1
    ·rcases h2.2 with h3|h3
     ·rw[cW]at h3;cases h3
     ·rcases dj with h4|h4
      ·exact h4 h3.1
      ·exact h4 h3.2
   refine Er (p:=((C.past.getD i default).name,(C.past.getD i default).version)) rfl rfl rfl OB.nil ?_
   repeat'(first|exact .nil|refine .k0 ?_|refine .k1 ?_|refine .k2 ?_|refine .k7 ?_|refine .k9 ?_|(refine .cd ?_ ?_<;>(intro hc;skip))|refine .r1 ?_ ?_|fail)
   all_goals(try simp only[BL]at *)
   ·rw[key 121 (by decide) (by rw[hd (by omega),ho,Z6 (by decide),Z6 kN,Z3 hc])]
    exact Zw
   ·refine Es (p:=((C.past.getD i default).name,(C.past.getD i default).version)) rfl rfl rfl hc rfl OB.nil ?_
    repeat'(first|exact .nil|refine .k0 ?_|refine .k1 ?_|refine .k2 ?_|refine .r1 ?_ ?_|fail)
    all_goals(try simp only[BL]at *)
    refine⟨m2-1,by omega,_,_,Zr,Zs,i+1,_,by omega,by omega,?_,rfl,by rw[aO (n:=C.past.length) (by omega) (by assumption)]⟩
    rw[hL,hd (by omega),ho,Z6 (by decide),Z6 kN,Z6 (by rw[hc];decide)]
  ·intro h;unfold maxLen at bp;rw[aM (by omega)];omega
  ·have yK:i=C.past.length:=by omega
   subst yK
   rw[Y2,dy]at hL
   refine⟨2-2,by omega,_,_,Zr,Zs,2+1,dI,by omega,by omega,?_,rfl,by rw[aO (n:=5) (by omega) (by decide)]⟩
   rw[gD,hL,Z6 (by simp)]
 ·repeat'(first|exact .nil|refine .k0 ?_|refine .k1 ?_|refine .k2 ?_|refine .k6 ?_|refine .k7 ?_|refine .k8 ?_|refine .k9 ?_|(refine .cd ?_ ?_<;>(intro hc;skip))|refine .r1 ?_ ?_|refine .r8 ?_ ?_|fail)
  all_goals(try simp only[BL]at *)
  all_goals first|(exfalso;exact absurd hc (by decide))|skip
  rw[hv]
  exact Zw
def bG:Option ae→List aP→Int
 |_,[]=>0
 |p,t::l=>if dN t≠0 then dN t else if fB 0 p t.name then 1 else bG (some t.name) l
def jm(C:az):List aj→Int
 |[]=>0
 |f::l=>if oq C f≠0 then oq C f else jm C l
open Classical in
noncomputable def iM(C:az):Int:=
 if C.tables.length>16∨C.features.length>32∨C.bn.length>32∨C.past.length>32 then 2
 else if bG none C.tables≠0 then bG none C.tables
 else if gW C≠0 then gW C
 else if jm C C.features≠0 then jm C C.features
 else if gM (deps C.features) (aQ C.features)≠[]then 120 else 0
def qk(l:List aP)(i:Nat):Option ae:=if i=0 then none else some (l.getD (i-1) default).name
theorem Pr{l:List aP}{i:Nat}{s:ae}(hi:i≤maxLen):(0<(i:Int)∧(Op.bytesLess (ByteArray.toList s) (ByteArray.toList (l.getD (IntKind.i64.wrap ((i:Int)-1)).toNat default).name)=true∨s=(l.getD (IntKind.i64.wrap ((i:Int)-1)).toNat default).name))↔fB 0 (qk l i) s:=by
 unfold qk
 by_cases h0:i=0
 ·subst h0;rw[Z3 rfl];unfold fB;simp
 ·rw[Z6 h0]
  have e:(IntKind.i64.wrap ((i:Int)-1)).toNat=i-1:=by unfold maxLen at hi;rw[aM (by omega)];omega
  rw[e]
  unfold fB ct
  simp only[]
  constructor
  ·rintro⟨_,h|h'⟩
   ·exact .inl h
   ·exact .inr ⟨by omega,h'⟩
  ·rintro(h|⟨h,h'⟩)
   ·exact⟨by omega,.inl h⟩
   ·exact⟨by omega,.inr h'⟩
theorem wT{l:List aP}{i:Nat}(hi:i<l.length):bG (qk l i) (l.drop i)=if dN (l.getD i default)≠0 then dN (l.getD i default)else if fB 0 (qk l i) (l.getD i default).name then 1 else bG (qk l (i+1)) (l.drop (i+1)):=by
 have e:l.drop i=l.getD i default::l.drop (i+1):=by rw[getD_eq hi,X7]
 rw[e,bG];rfl
theorem aNB(C:az){l:List aj}{i:Nat}(hi:i<l.length):jm C (l.drop i)=if oq C (l.getD i default)≠0 then oq C (l.getD i default)else jm C (l.drop (i+1)):=by
 have e:l.drop i=l.getD i default::l.drop (i+1):=by rw[getD_eq hi,X7]
 rw[e,jm]
theorem Ag:∀ {l:List Ex} {x:Ex},x∈l→x.size≤Ex.cB l
 |y::l,x,h=>by
  rw[Ex.cB]
  rcases ZQ.1 h with rfl|h
  ·omega
  ·have:=Ag h;omega
theorem Bb{C:az}(hs:Small C){f:aj}(hf:f∈C.all):f.body.size≤2000:=by
 have h1:=Dz (C.all.map aj.body) 2000 0 hs.n
 have h2:=hs.n
 have h3:=Ag (Yz (f:=aj.body) hf)
 omega
theorem Ej{C:az}{n:Nat}{f:aj}(hf:f∈LL C n):f∈C.all:=by
 unfold LL at hf;unfold az.all
 split at hf
 ·exact ZK _ (ZK _ hf)
 ·split at hf
  ·exact ZK _ (Zt _ hf)
  ·exact Zt _ hf
theorem WZ(hT:mP)(hO:mO)(C:az)(hs:Small C)(gC:C.Fits):Pure Tryz.prog 9 [.agg C.cells] (iv (iM C)):=by
 have hV:=aMP C (fun n f hf=>by have:=Bb hs (Ej hf);omega)
 have mX:=fun(i:Nat) (h:i<C.features.length)=>abH hT hO C (C.features.getD i default) (ZJ (Bb hs (Ej (n:=0) (show C.features.getD i default∈LL C 0 from bu h))) (by decide))
 have hY:=Bn C (xU hs gC)
 unfold iM
 generalize gM (deps C.features) (aQ C.features)=Y at *
 generalize gW C=ve at *
 refine k9.p fun σ=> ?_
 repeat'(first|exact .nil|refine .k0 ?_|refine .k1 ?_|refine .k2 ?_|refine .k4 ?_|refine .k6 ?_|refine .k7 ?_|refine .k9 ?_|(refine .cd ?_ ?_<;>(intro hc;skip))|refine .r1 ?_ ?_|(refine .m1 ?_ ?_;intro b)|(refine .m2 ?_ ?_;intro hlen)|fail)
 try any_goals(exact Zo)
 all_goals(try simp only[BL]at *)
 ·rw[Z3 (by omega)];exact Zw
 rw[Z6 (by omega)]
 rename Nat=>b1
 refine aH (fun m rg af=>∃ i:Nat,i≤C.tables.length∧m=C.tables.length-i∧bG none C.tables=bG (qk C.tables i) (C.tables.drop i)∧af=(1,b1,.cells C.cells)::σ∧rg=[(1,.lp 1 b1 0),(33,.sl false 4 (C.tables.map aP.cells)),(34,iv C.tables.length),(35,iv i)]) C.tables.length rfl ⟨_,_,Zr,Zs,0,Z1 _,rfl,rfl,rfl,rfl⟩ ?_
 rintro m _ _ ⟨i,hi,hm,hL,rfl,rfl⟩
 have bp:i≤maxLen:=by unfold maxLen;have:=hs.t;omega
 have jR:=Pr (l:=C.tables) (i:=i) (s:=(C.tables.getD i default).name) bp
 repeat'(first|exact .nil|refine .k0 ?_|refine .k1 ?_|refine .k2 ?_|refine .k3 ?_|refine .k4 ?_|refine .k5 ?_|refine .k6 ?_|refine .k7 ?_|refine .k8 ?_|refine .k9 ?_|(refine .cd ?_ ?_<;>(intro hc;skip))|refine .r1 ?_ ?_|(refine .l1 ?_;intro b)|(refine .m2 ?_ ?_;intro hlen)|refine .t1 ?_ ?_ ?_|refine .an rfl (by intro aq;first|exact QX _|exact hV|fail) ?_ ?_|fail)
 try any_goals(exact Zo)
 all_goals(try simp only[BL]at *)
 ·rw[show bG none C.tables=dN (C.tables.getD i default) by rw[hL,wT (by omega),Z3 hc],Z3 hc];exact Zw
 ·rw[show bG none C.tables=1 by rw[hL,wT (by omega),Z6 (by grind),Z3 (jR.1 hc)],Z3 (by decide)];exact Zw
 ·have kN:¬fB 0 (qk C.tables i) (C.tables.getD i default).name:=fun h=>by
   have h2:=jR.2 h
   rcases hc with hc|⟨cW,dj⟩
   ·exact hc h2.1
   ·rcases h2.2 with h3|h3
    ·rw[cW]at h3;cases h3
    ·exact dj h3
  exact⟨m-1,by omega,_,_,Zr,Zs,i+1,by omega,by omega,by rw[hL,wT (by omega),Z6 (by grind),Z6 kN],rfl,by rw[aO (n:=C.tables.length) (by omega) (by assumption)]⟩
 ·intro h;unfold maxLen at bp;rw[aM (by omega)];omega
 ·have h0:bG none C.tables=0:=by rw[hL,show i=C.tables.length by omega,Y2,bG]
  rw[h0,Z6 (by simp),Z3 hc];exact Zw
 have h0:bG none C.tables=0:=by rw[hL,show i=C.tables.length by omega,Y2,bG]
 rw[h0,Z6 (by simp),Z6 (by grind)]
 clear jR bp hL hm hi
 refine aH (fun m rg af=>∃ i:Nat,i≤C.features.length∧m=C.features.length-i∧jm C C.features=jm C (C.features.drop i)∧af=(1,b1,.cells C.cells)::σ∧rg=[(1,.lp 1 b1 0),(66,.sl false 18 (C.features.map aj.cells)),(67,iv C.features.length),(68,iv i)]) C.features.length rfl ⟨_,_,Zr,Zs,0,Z1 _,rfl,rfl,rfl,rfl⟩ ?_
 rintro m _ _ ⟨i,hi,hm,hL,rfl,rfl⟩
 have hF:=mX i
 have FQ:Y.length=0↔Y=[]:=XE
 repeat'(first|exact .nil|refine .k0 ?_|refine .k1 ?_|refine .k2 ?_|refine .k6 ?_|refine .k7 ?_|refine .k8 ?_|refine .k9 ?_|(refine .cd ?_ ?_<;>(intro hc;skip))|refine .r1 ?_ ?_|(refine .l1 ?_;intro b)|(refine .m2 ?_ ?_;intro hlen)|refine .t1 ?_ ?_ ?_|refine .an rfl (by intro aq;first|exact hF (by(simp only[BL]at *;omega))|exact hY) ?_ ?_|fail)
 try any_goals(exact Zo)
 all_goals(try simp only[BL]at *)
 ·rw[show jm C C.features=oq C (C.features.getD i default) by rw[hL,aNB C (by omega),Z3 hc],Z3 hc];exact Zw
 ·exact⟨m-1,by omega,_,_,Zr,Zs,i+1,by omega,by omega,by rw[hL,aNB C (by omega),Z6 (by grind)],rfl,by rw[aO (n:=C.features.length) (by omega) (by assumption)]⟩
 all_goals have h1:jm C C.features=0:=by rw[hL,show i=C.features.length by omega,Y2,jm]
 all_goals rw[h1,Z6 (by simp)]
 ·rw[Z3 (fun h=>by subst h;simp at hc)];exact Zw
 ·rw[Z6 (fun h=>h (FQ.1 (by omega)))];exact Zw
end Go.Proofs.YtomhopcnkicknaaGreatDoor
