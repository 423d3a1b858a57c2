/- The layer: a box that is not written any more becomes a known block. -/
import Derived.Test.YthdeaajdmdmfnaaGreatDoorGa
import Derived.Test.YthdeaajdmdmfnaaGreatDoorFa
import Derived.Test.YthdeaajdmdmfnaaGreatDoorEd
set_option linter.unusedSimpArgs false
set_option linter.unusedVariables false
set_option linter.unusedSectionVars false
namespace Go.Sx
open Go.RowKit Go.Proofs
inductive tW(t b:Nat)(xs:List AV):Store→Store→Prop
 |here {σ:Store}:tW t b xs ((t,b,.cells xs)::σ) σ
 |there {e:Nat×Nat×aZ} {σ σ':Store} (h:tW t b xs σ σ'):tW t b xs (e::σ) (e::σ')
theorem tW.perm{t b:Nat}{xs:List AV}{σ σ':Store}(h:tW t b xs σ σ'):List.Perm σ ((t,b,.cells xs)::σ'):=by
 induction h with
 |here=>simp_all
 |there _ ih=>exact(ih.cons _).trans (.swap _ _ _)
inductive nG(b:Nat)(xs:List AV):ag→ag→Prop
 |nil:nG b xs [] []
 |p0 {i t:Nat} {r r':ag} (h:nG b xs r r'):nG b xs ((i,.lp t b 0)::r) ((i,.pc xs)::r')
 |pt {i t o:Nat} {r r':ag} (h:nG b xs r r'):nG b xs ((i,.lp t b o)::r) ((i,.pc (xs.drop o))::r')
 |same {i:Nat} {x:AV} {r r':ag} (h:nG b xs r r'):nG b xs ((i,x)::r) ((i,x)::r')
theorem nG.lk{b:Nat}{xs:List AV}{r r':ag}(h:nG b xs r r')(i:Nat):lk r' i=lk r i∨∃ t o,lk r i= .lp t b o∧lk r' i= .pc (xs.drop o):=by
 induction h with
 |nil=>exact .inl rfl
 | @p0 j t _ _ _ ih=>
  simp only[Sx.lk]
  cases Nat.beq j i with
  |true=>exact .inr ⟨t,0,rfl,rfl⟩
  |false=>exact ih
 | @pt j t o _ _ _ ih=>
  simp only[Sx.lk]
  cases Nat.beq j i with
  |true=>exact .inr ⟨t,o,rfl,rfl⟩
  |false=>exact ih
 | @same j x _ _ _ ih=>
  simp only[Sx.lk]
  cases Nat.beq j i with
  |true=>exact .inl rfl
  |false=>exact ih
section
variable {P:Program}[Glob P]{M:Mem}{w0:Base}{w:World}{σ:Store}
theorem RL.pc{b o:Nat}{xs:List AV}{vs:List Value}(hR:RL M xs vs)(hc:∀ k (h:k<vs.length),M b k=some vs[k]):R M (.pc (xs.drop o)) (.pointer (some ⟨b,o,none⟩)):=by
 refine .pc _ b o (fun k=>vs.getD (o+k) default) (fun k hk=> ?_) (fun k hk=> ?_)
 ·have di:o+k<vs.length:=by rw[← hR.1];simp at hk;omega
  rw[hc _ di,Z3,Z1 di];rfl
 ·have ku:o+k<xs.length:=by simp at hk;omega
  have di:o+k<vs.length:=by rw[← hR.1];exact ku
  rw[List.getElem_drop,Z3,Z1 di]
  exact hR.2 _ ku di
end
theorem SW.NC{P:Program}[Glob P]{N:Nat}{s:SC}{Q:Exit→ag→Store→Prop}{rg ak:ag}{σ σ':Store}{t b:Nat}{xs:List AV}(hs:tW t b xs σ σ')(hr:nG b xs rg ak)(h:SW P N s Q ak σ'):SW P N s Q rg σ:=by
 intro c hc M w0 a w hI hR hN hD
 obtain⟨M',vs,hM,bp,c9,hcell⟩:=(hI.perm hs.perm).freeze
 refine zj (h c hc M' w0 a w bp (fun i=> ?_) hN hD) fun _ _ _ ⟨M2,bI,aJ,h1,h2⟩=>⟨M2,bI,aJ,hM.trans h1,h2⟩
 have h1:=(hR i).mono hM
 rcases hr.lk i with e|⟨t',o,e1,e2⟩
 ·rw[e];exact h1
 ·rw[e1]at h1
  rw[e2]
  have h2:=h1.oH
  rw[h2]
  exact RL.pc c9 hcell
theorem rL{P:Program}[Glob P]{N:Nat}{cfg:Nat→Nat}{Q:Exit→ag→Store→Prop}{a:AC}{k:List Fr}{rg ak:ag}{σ σ':Store}(t b:Nat){xs:List AV}(hs:tW t b xs σ σ')(hr:nG b xs rg ak)(h:WK P N cfg Q a k ak σ'):WK P N cfg Q a k rg σ:=⟨⟨rfl,SW.NC hs hr h.h.h⟩⟩
end Go.Sx
set_option maxRecDepth 100000
set_option maxHeartbeats 4000000
namespace Go.Proofs.YthdeaajdmdmfnaaGreatDoor
open _root_.Go.Proofs.Tryz
open Go.Sx Go.Proofs Go.Tb
def dO:Ty:=⟨0,[],s0⟩
abbrev jb(t:Ty×Int):AV:= .bo [.agg t.1.cells,iv t.2]
abbrev eN(c:au)(aG:af)(fld:AV):List AV:=[.sl false 4 (c.tables.map bj.cells),.sl false 18 (c.features.map aq.cells),.sl false 18 (c.aD.map aq.cells),.sl false 18 (c.past.map aq.cells),sv aG,fld]
theorem jI(e:Int):Pure prog 177 [iv e] (jb (dO,e)):=by
 refine adC.p fun σ=> ?_
 repeat'(first|exact .nil|refine .k0 ?_|refine .k1 ?_|refine .k2 ?_|refine .k7 ?_|refine .r1 ?_ ?_|(refine .l1 ?_;intro b)|fail)
 all_goals(try simp only[BL]at *)
 exact Zw
def q6(a b:Ty):Ty×Int:=if a.kind≠b.kind∨a.of≠b.of then(dO,5)else if a.unit≠b.unit then(dO,70)else(a,0)
theorem SN(a b:List aC):Pure prog 179 [.sl false 2 (a.map aC.cells),.sl false 2 (b.map aC.cells)] (.v (.bool (decide (a=b)))):=by
 refine adD.p fun σ=> ?_
 repeat'(first|exact .nil|refine .k0 ?_|refine .k1 ?_|refine .k2 ?_|refine .k7 ?_|refine .r1 ?_ ?_|refine .an rfl (by intro aI;exact MV _ _) ?_ ?_|fail)
 all_goals(try simp only[BL]at *)
 exact Zw
theorem Ki(x y:Ty):Pure prog 128 [.agg x.cells,.agg y.cells] (jb (q6 x y)):=by
 refine ado.p fun σ=> ?_
 repeat'(first|exact .nil|refine .k0 ?_|refine .k1 ?_|refine .k2 ?_|refine .k4 ?_|refine .k7 ?_|refine .k9 ?_|(refine .cd ?_ ?_<;>(intro hc;skip))|refine .r1 ?_ ?_|(refine .l1 ?_;intro b)|(refine .m1 ?_ ?_;intro b)|refine .an rfl (by intro aI;first|exact SN _ _|exact jI _) ?_ ?_|fail)
 try any_goals(exact Zo)
 all_goals(try simp only[BL]at *)
 ·rw[show q6 x y=(dO,5)from ZV (by simpa using hc)];exact Zw
 ·rw[show q6 x y=(dO,70)from(Z7 (by grind)).trans (ZV hc)];exact Zw
 ·rw[show q6 x y=(x,0)from(Z7 (by grind)).trans (Z7 (by grind))];exact Zw
theorem ae7(x:aq)(n:af):Pure prog 359 [.agg x.cells,.pc [sv n]] (.v (.bool (decide (x.name=n)))):=by
 refine ael.p fun σ=> ?_
 repeat'(first|exact .nil|refine .k0 ?_|refine .k1 ?_|refine .k2 ?_|refine .k7 ?_|refine .r1 ?_ ?_|(refine .m1 ?_ ?_;intro b)|fail)
 all_goals(try simp only[BL]at *)
 ·exact Sx.Fin.intro Zs rfl
theorem acQ(fs:List aq)(n:af):Pure prog 78 [.sl false 18 (fs.map aq.cells),.cl 359 [] [.pc [sv n]]] (iv (firstIdx (fun x=>decide (x.name=n)) fs 0)):=by
 refine P1.p fun σ=> ?_
 repeat'(first|exact .nil|refine .k0 ?_|refine .k1 ?_|refine .k2 ?_|refine .k6 ?_|refine .r1 ?_ ?_|(refine .m2 ?_ ?_;intro hlen)|fail)
 all_goals(try simp only[BL]at *)
 refine cr (fun m rg σ'=>∃ i:Nat,i≤fs.length∧m=fs.length-i∧(∀ j,j<i→¬(fs.getD j default).name=n)∧σ'=σ∧rg=[(0,.sl false 18 (fs.map aq.cells)),(1,.cl 359 [] [.pc [sv n]]),(7,iv fs.length),(8,iv i)]) fs.length rfl ⟨_,_,Zr,Zs,0,ZM _,rfl,fun j hj=>absurd hj (by omega),rfl,rfl⟩ ?_
 rintro m _ _ ⟨i,hi,hn,hp,rfl,rfl⟩
 repeat'(first|exact .nil|refine .k0 ?_|refine .k1 ?_|refine .k2 ?_|refine .k6 ?_|refine .k7 ?_|refine .k8 ?_|refine .k9 ?_|(refine .cd ?_ ?_<;>(intro hc;skip))|refine .r1 ?_ ?_|refine .t1 ?_ ?_ ?_|refine .an rfl (by intro aI;exact ae7 _ _) ?_ ?_|fail)
 try any_goals(exact Zo)
 all_goals(try simp only[BL]at *)
 ·rw[rY (p:=fun x:aq=>decide (x.name=n)) (l:=fs) (k:=0) (i:=i) (fun j hj=>Zh (hp j hj)) (by omega) (YJ hc),ZH]
  exact Zw
 ·refine⟨fs.length-(i+1),by omega,_,_,Zr,Zs,i+1,by omega,rfl,iM hp hc,rfl,by rw[cm (n:=fs.length) (by omega) (by assumption)]⟩
 ·rw[rZ (fun y hy=>Zh (nz (p:=fun y:aq=>¬y.name=n) (fun j hj=>hp j (by omega)) y hy))]
  exact Zw
def te(fs:List aq)(n aG:af):Ty×Int:=match findF fs n with
 |none=>(dO,4)
 |some f=>if f.dx=aG then(f.type,0)else(dO,5)
theorem abt{fs:List aq}{n:af}:(findF fs n=none∧firstIdx (fun x=>decide (x.name=n)) fs 0= -1)∨∃ i:Nat,i<fs.length∧firstIdx (fun x=>decide (x.name=n)) fs 0=(i:Int)∧findF fs n=some (fs.getD i default):=by
 rcases zw (fun x=>decide (x.name=n)) fs 0 with h|⟨i,h1,h2,h3⟩
 ·exact .inl h
 ·exact .inr ⟨i,h1,by rw[h2,ZH],h3⟩
theorem QG(c:au)(e0 n aG:af):Pure prog 324 [.agg (eN c e0 (.v .nilFunc)),sv n,sv aG] (jb (te c.features n aG)):=by
 have hi:=acQ c.features n
 unfold te
 rcases abt (fs:=c.features) (n:=n)with⟨h1,h2⟩|⟨i,h0,h2,h1⟩
 all_goals
  rw[h2]at hi
  rw[h1]
  refine aeh.p fun σ=> ?_
  refine .k1 ?_
  refine .k2 ?_
  repeat'((fail_if_success (show WK _ _ _ _ _ _ _ _));(first|exact .nil|refine .k0 ?_|refine .k1 ?_|refine .r1 ?_ ?_|(refine .l1 ?_;intro b)|(refine .m1 ?_ ?_;intro b)|fail))
  refine .k0 ?_
  rename_i b3 b4
  refine rL 4 b4 (.there .here) (.same (.same (.p0 (.same .nil)))) ?_
  repeat'(first|exact .nil|refine .k0 ?_|refine .k1 ?_|refine .k2 ?_|refine .k6 ?_|refine .k7 ?_|refine .k9 ?_|(refine .cd ?_ ?_<;>(intro hc;skip))|refine .r1 ?_ ?_|refine .t1 ?_ ?_ ?_|refine .an rfl (by intro aI;first|exact hi|exact jI _) ?_ ?_|fail)
  try any_goals(exact Zo)
  all_goals(try simp only[BL]at *)
  all_goals try(show(0:Int)≤_∧_;omega)
 ·exact Zw
 ·exfalso;omega
 ·exfalso;omega
 ·exfalso;omega
 ·rw[Z7 hc];exact Zw
 ·rw[ZV hc];exact Zw
abbrev oN(l:List Ty):AV:= .sl false 3 (l.map Ty.cells)
def fG:Option bj→AV
 |none=> .v .nilFunc
 |some t=> .cl 222 [] [.pc t.cells]
theorem aeO(c:au)(e0:af)(tb:Option bj)(x:Ex)(l:List Ty):Pure prog 269 [.agg (eN c e0 (fG tb)),.agg x.row,oN l] (jb (⟨x.val.kind,x.unit,x.name⟩,0)):=by
 cases tb
 all_goals
  refine ad4.p fun σ=> ?_
  repeat'(first|exact .nil|refine .k0 ?_|refine .k1 ?_|refine .k2 ?_|refine .k7 ?_|refine .r1 ?_ ?_|(refine .l1 ?_;intro b)|(refine .m1 ?_ ?_;intro b)|fail)
  all_goals(try simp only[BL]at *)
  all_goals exact Zw
theorem aa9(c:au)(e0:af)(x:Ex)(l:List Ty):Pure prog 271 [.agg (eN c e0 (.v .nilFunc)),.agg x.row,oN l] (jb (te c.features x.name e0)):=by
 have hn:=QG c e0 x.name e0
 generalize te c.features x.name e0=r at *
 refine ad6.p fun σ=> ?_
 repeat'(first|exact .nil|refine .k0 ?_|refine .k1 ?_|refine .k2 ?_|refine .k7 ?_|refine .r1 ?_ ?_|(refine .l1 ?_;intro b)|(refine .m1 ?_ ?_;intro b)|refine .an rfl (by intro aI;first|exact hn|fail) ?_ ?_|fail)
 all_goals(try simp only[BL]at *)
 exact Zw
theorem aeP(c:au)(e0:af)(x:Ex)(l:List Ty)(hl:0<l.length):Pure prog 272 [.agg (eN c e0 (.v .nilFunc)),.agg x.row,oN l] (jb (if(l.getD 0 default).kind=5 then te c.features x.name (l.getD 0 default).of else(dO,5))):=by
 have hn:=QG c e0 x.name (l.getD 0 default).of
 generalize te c.features x.name (l.getD 0 default).of=r at *
 refine ad7.p fun σ=> ?_
 repeat'(first|exact .nil|refine .k0 ?_|refine .k1 ?_|refine .k2 ?_|refine .k3 ?_|refine .k7 ?_|refine .k9 ?_|(refine .cd ?_ ?_<;>(intro hc;skip))|refine .r1 ?_ ?_|(refine .l1 ?_;intro b)|(refine .m1 ?_ ?_;intro b)|refine .t1 ?_ ?_ ?_|refine .an rfl (by intro aI;first|exact hn|exact jI _|fail) ?_ ?_|fail)
 try any_goals(exact Zo)
 all_goals(try simp only[BL]at *)
 all_goals try(show(0:Int)≤_∧_;omega)
 all_goals first|(rw[Z7 hc];(refine Sx.Fin.wk Zs ?_;repeat' first|exact .refl _|fail);done)|(rw[ZV hc];(refine Sx.Fin.wk Zs ?_;repeat' first|exact .refl _|fail);done)
theorem WT(c:au)(e0:af)(tb:Option bj)(x:Ex)(l:List Ty)(hl:l.length=3):Pure prog 276 [.agg (eN c e0 (fG tb)),.agg x.row,oN l] (jb (if(l.getD 0 default).kind=1 then q6 (l.getD 1 default) (l.getD 2 default)else(dO,5))):=by
 cases tb
 all_goals
  refine aeb.p fun σ=> ?_
  repeat'(first|exact .nil|refine .k0 ?_|refine .k1 ?_|refine .k2 ?_|refine .k3 ?_|refine .k7 ?_|refine .k9 ?_|(refine .cd ?_ ?_<;>(intro hc;skip))|refine .r1 ?_ ?_|(refine .l1 ?_;intro b)|(refine .m1 ?_ ?_;intro b)|refine .t1 ?_ ?_ ?_|refine .an rfl (by intro aI;first|exact jI _|exact Ki _ _|fail) ?_ ?_|fail)
  try any_goals(exact Zo)
  all_goals(try simp only[BL]at *)
  all_goals try(show(0:Int)≤_∧_;omega)
  all_goals first|(rw[Z7 hc];(refine Sx.Fin.wk Zs ?_;repeat' first|exact .refl _|fail);done)|(rw[ZV hc];(refine Sx.Fin.wk Zs ?_;repeat' first|exact .refl _|fail);done)
theorem aa4(c:au)(e0:af)(tb:Option bj)(x:Ex)(l:List Ty)(hl:l.length=2):Pure prog 277 [.agg (eN c e0 (fG tb)),.agg x.row,oN l] (jb (q6 (l.getD 0 default) (l.getD 1 default))):=by
 cases tb
 all_goals
  refine aec.p fun σ=> ?_
  repeat'(first|exact .nil|refine .k0 ?_|refine .k1 ?_|refine .k2 ?_|refine .k3 ?_|refine .k7 ?_|refine .r1 ?_ ?_|(refine .l1 ?_;intro b)|(refine .m1 ?_ ?_;intro b)|refine .t1 ?_ ?_ ?_|refine .an rfl (by intro aI;first|exact Ki _ _|fail) ?_ ?_|fail)
  try any_goals(exact Zo)
  all_goals(try simp only[BL]at *)
  all_goals try(show(0:Int)≤_∧_;omega)
  all_goals exact Zw
def afo(o:af)(l:List af):Prop:=o∈l
instance (o:af)(l:List af):Decidable (afo o l):=inferInstanceAs (Decidable (o∈l))
def pW(o:af)(a b:Ty):Ty×Int:=
 if b.kind≠1 then(dO,5)else if o=(⟨#[99,111,117,110,116]⟩:af)∨o=(⟨#[100,105,115,116,105,110,99,116]⟩:af)then(⟨2,[],s0⟩,0)else if o=(⟨#[102,105,114,115,116]⟩:af)∨o=(⟨#[108,97,115,116]⟩:af)then(a,0)else if(o=(⟨#[109,105,110]⟩:af)∨o=(⟨#[109,97,120]⟩:af))∧a.kind=4 then(a,0)
 else if¬Num a then(dO,5)else if o=(⟨#[109,101,97,110]⟩:af)∨o=(⟨#[100,101,99,97,121]⟩:af)then(⟨3,a.unit,s0⟩,0)else(a,0)
def tO(o:af)(a:Ty):Ty×Int:=
 if o=(⟨#[45]⟩:af)∧Num a then(a,0)else if o=(⟨#[110,117,108,108]⟩:af)∨(o=(⟨#[110,111,116]⟩:af)∧a.kind=1)then(⟨1,[],s0⟩,0)else(dO,5)
theorem VG(c:au)(e0:af)(x:Ex)(l:List Ty)(hl:l.length=2):Pure prog 273 [.agg (eN c e0 (.v .nilFunc)),.agg x.row,oN l] (jb (pW x.op (l.getD 0 default) (l.getD 1 default))):=by
 refine ad8.p fun σ=> ?_
 repeat'(first|exact .nil|refine .k0 ?_|refine .k1 ?_|refine .k2 ?_|refine .k4 ?_|refine .k6 ?_|refine .k7 ?_|refine .k9 ?_|(refine .cd ?_ ?_<;>(intro hc;first|exact kf hc (by assumption)|skip))|refine .r1 ?_ ?_|(refine .l1 ?_;intro b)|(refine .m1 ?_ ?_;intro b)|refine .t1 ?_ ?_ ?_|refine .an rfl (by intro aI;first|exact jI _|exact DF _) ?_ ?_|fail)
 try any_goals(exact Zo)
 all_goals(try simp only[BL]at *)
 all_goals try(show(0:Int)≤_∧_;omega)
 all_goals clear hl
 all_goals generalize l.getD 0 default=A at *
 all_goals generalize l.getD 1 default=B at *
 all_goals first
  |(rw[show pW x.op A B=(dO,5)from by unfold pW;grind];(refine Sx.Fin.wk Zs ?_;repeat' first|exact .refl _|refine .cons ?_ ?_|refine .bo ?_|refine .agg ?_|fail);done)
  |(rw[show pW x.op A B=(A,0)from by unfold pW;grind];(refine Sx.Fin.wk Zs ?_;repeat' first|exact .refl _|refine .cons ?_ ?_|refine .bo ?_|refine .agg ?_|fail);done)
  |(rw[show pW x.op A B=(⟨2,[],s0⟩,0)from by unfold pW;grind];(refine Sx.Fin.wk Zs ?_;repeat' first|exact .refl _|exact .nil|refine .cons ?_ ?_|refine .bo ?_|refine .agg ?_|fail);done)
  |(rw[show pW x.op A B=(⟨3,A.unit,s0⟩,0)from by unfold pW;grind];(refine Sx.Fin.wk Zs ?_;repeat' first|exact .refl _|fail);done)
theorem ai6(c:au)(e0:af)(tb:Option bj)(x:Ex)(l:List Ty)(hl:l.length=1):Pure prog 274 [.agg (eN c e0 (fG tb)),.agg x.row,oN l] (jb (tO x.op (l.getD 0 default))):=by
 cases tb
 all_goals
  refine ad9.p fun σ=> ?_
  repeat'(first|exact .nil|refine .k0 ?_|refine .k1 ?_|refine .k2 ?_|refine .k3 ?_|refine .k4 ?_|refine .k6 ?_|refine .k7 ?_|refine .k9 ?_|(refine .cd ?_ ?_<;>(intro hc;first|exact kf hc (by assumption)|skip))|refine .r1 ?_ ?_|(refine .l1 ?_;intro b)|(refine .m1 ?_ ?_;intro b)|refine .t1 ?_ ?_ ?_|refine .an rfl (by intro aI;first|exact jI _|exact DF _) ?_ ?_|fail)
  try any_goals(exact Zo)
  all_goals(try simp only[BL]at *)
  all_goals try(show(0:Int)≤_∧_;omega)
  all_goals clear hl
  all_goals generalize l.getD 0 default=A at *
  all_goals first
   |(rw[show tO x.op A=(dO,5)from by unfold tO;grind];(refine Sx.Fin.wk Zs ?_;repeat' first|exact .refl _|fail);done)
   |(rw[show tO x.op A=(A,0)from by unfold tO;grind];(refine Sx.Fin.wk Zs ?_;repeat' first|exact .refl _|fail);done)
   |(rw[show tO x.op A=(⟨1,[],s0⟩,0)from by unfold tO;grind];(refine Sx.Fin.wk Zs ?_;repeat' first|exact .refl _|exact .nil|refine .cons ?_ ?_|refine .bo ?_|refine .agg ?_|fail);done)
set_option maxHeartbeats 8000000
theorem Gz{α:Type}[Inhabited α](p:α→Bool):∀ (l:List α) (k:Nat),(l.find? p=none∧firstIdx p l k= -1)∨∃ i:Nat,i<l.length∧firstIdx p l k=((k+i:Nat):Int)∧l.find? p=some (l.getD i default)
 |[],k=> .inl ⟨rfl,rfl⟩
 |x::l,k=>by
  unfold firstIdx
  by_cases h:p x=true
  ·exact .inr ⟨0,by simp,by simp[h],by simp[h]⟩
  ·rcases Gz p l (k+1)with⟨h1,h2⟩|⟨i,h1,h2,h3⟩
   ·exact .inl ⟨by simp[h,h1],by simp[h,h2]⟩
   ·exact .inr ⟨i+1,by simpa using h1,by rw[Z7 h,h2];omega,by simp[h,h3]⟩
def Gx(fs:List dk)(n:af):Option dk:=fs.find? fun f=>decide (f.name=n)
theorem abx(x:dk)(n:af):Pure prog 223 [.agg x.cells,.pc [sv n]] (.v (.bool (decide (x.name=n)))):=by
 refine adQ.p fun σ=> ?_
 repeat'(first|exact .nil|refine .k0 ?_|refine .k1 ?_|refine .k2 ?_|refine .k7 ?_|refine .r1 ?_ ?_|(refine .m1 ?_ ?_;intro b)|fail)
 all_goals(try simp only[BL]at *)
 ·exact Sx.Fin.intro Zs rfl
theorem acR(fs:List dk)(n:af):Pure prog 169 [.sl false 4 (fs.map dk.cells),.cl 223 [] [.pc [sv n]]] (iv (firstIdx (fun x=>decide (x.name=n)) fs 0)):=by
 refine Jr.p fun σ=> ?_
 repeat'(first|exact .nil|refine .k0 ?_|refine .k1 ?_|refine .k2 ?_|refine .k6 ?_|refine .r1 ?_ ?_|(refine .m2 ?_ ?_;intro hlen)|fail)
 all_goals(try simp only[BL]at *)
 refine cr (fun m rg σ'=>∃ i:Nat,i≤fs.length∧m=fs.length-i∧(∀ j,j<i→¬(fs.getD j default).name=n)∧σ'=σ∧rg=[(0,.sl false 4 (fs.map dk.cells)),(1,.cl 223 [] [.pc [sv n]]),(7,iv fs.length),(8,iv i)]) fs.length rfl ⟨_,_,Zr,Zs,0,ZM _,rfl,fun j hj=>absurd hj (by omega),rfl,rfl⟩ ?_
 rintro m _ _ ⟨i,hi,hn,hp,rfl,rfl⟩
 repeat'(first|exact .nil|refine .k0 ?_|refine .k1 ?_|refine .k2 ?_|refine .k6 ?_|refine .k7 ?_|refine .k8 ?_|refine .k9 ?_|(refine .cd ?_ ?_<;>(intro hc;skip))|refine .r1 ?_ ?_|refine .t1 ?_ ?_ ?_|refine .an rfl (by intro aI;exact abx _ _) ?_ ?_|fail)
 try any_goals(exact Zo)
 all_goals(try simp only[BL]at *)
 ·rw[rY (p:=fun x:dk=>decide (x.name=n)) (l:=fs) (k:=0) (i:=i) (fun j hj=>Zh (hp j hj)) (by omega) (YJ hc),ZH]
  exact Zw
 ·refine⟨fs.length-(i+1),by omega,_,_,Zr,Zs,i+1,by omega,rfl,iM hp hc,rfl,by rw[cm (n:=fs.length) (by omega) (by assumption)]⟩
 ·rw[rZ (fun y hy=>Zh (nz (p:=fun y:dk=>¬y.name=n) (fun j hj=>hp j (by omega)) y hy))]
  exact Zw
def CG(fs:List dk)(n:af):Ty×Int:=match Gx fs n with
 |none=>(dO,4)
 |some f=>(f.type,0)
theorem abu{fs:List dk}{n:af}:(Gx fs n=none∧firstIdx (fun x=>decide (x.name=n)) fs 0= -1)∨∃ i:Nat,i<fs.length∧firstIdx (fun x=>decide (x.name=n)) fs 0=(i:Int)∧Gx fs n=some (fs.getD i default):=by
 rcases Gz (fun x:dk=>decide (x.name=n)) fs 0 with h|⟨i,h1,h2,h3⟩
 ·exact .inl h
 ·exact .inr ⟨i,h1,by rw[h2,ZH],h3⟩
theorem abo(t:bj)(n:af):Pure prog 222 [sv n,.pc t.cells] (jb (CG t.fields n)):=by
 have hi:=acR t.fields n
 unfold CG
 rcases abu (fs:=t.fields) (n:=n)with⟨h1,h2⟩|⟨i,h0,h2,h1⟩
 all_goals
  rw[h2]at hi
  rw[h1]
  refine adP.p fun σ=> ?_
  refine .k1 ?_
  refine .k2 ?_
  repeat'((fail_if_success (show WK _ _ _ _ _ _ _ _));(first|exact .nil|refine .k0 ?_|refine .k1 ?_|refine .r1 ?_ ?_|(refine .l1 ?_;intro b)|(refine .m1 ?_ ?_;intro b)|fail))
  refine .k0 ?_
  rename_i b2
  refine rL 2 b2 (.there .here) (.same (.p0 (.same .nil))) ?_
  repeat'(first|exact .nil|refine .k0 ?_|refine .k1 ?_|refine .k2 ?_|refine .k7 ?_|refine .k9 ?_|(refine .cd ?_ ?_<;>(intro hc;skip))|refine .r1 ?_ ?_|refine .t1 ?_ ?_ ?_|refine .an rfl (by intro aI;first|exact hi|exact jI _) ?_ ?_|fail)
  try any_goals(exact Zo)
  all_goals(try simp only[BL]at *)
  all_goals try(show(0:Int)≤_∧_;omega)
  all_goals first|(exfalso;omega)|(refine Sx.Fin.wk Zs ?_;repeat' first|exact .refl _|fail)
theorem abp(c:au)(e0:af)(t:bj)(x:Ex)(l:List Ty):Pure prog 270 [.agg (eN c e0 (fG (some t))),.agg x.row,oN l] (jb (CG t.fields x.name)):=by
 refine ad5.p fun σ=> ?_
 repeat'(first|exact .nil|refine .k0 ?_|refine .k1 ?_|refine .k2 ?_|refine .k7 ?_|refine .r1 ?_ ?_|(refine .l1 ?_;intro b)|(refine .m1 ?_ ?_;intro b)|refine .an rfl (by intro aI;exact abo _ _) ?_ ?_|fail)
 all_goals(try simp only[BL]at *)
 exact Zw
theorem aiM(t:bj)(x:Ex):Pure prog 221 [.agg t.cells,.pc x.row] (.v (.bool (decide (t.name=x.table)))):=by
 refine adO.p fun σ=> ?_
 repeat'(first|exact .nil|refine .k0 ?_|refine .k1 ?_|refine .k2 ?_|refine .k7 ?_|refine .r1 ?_ ?_|(refine .m1 ?_ ?_;intro b)|fail)
 all_goals(try simp only[BL]at *)
 ·exact Sx.Fin.intro Zs rfl
theorem acU(fs:List bj)(x:Ex):Pure prog 220 [.sl false 4 (fs.map bj.cells),.cl 221 [] [.pc x.row]] (iv (firstIdx (fun t=>decide (t.name=x.table)) fs 0)):=by
 refine adN.p fun σ=> ?_
 repeat'(first|exact .nil|refine .k0 ?_|refine .k1 ?_|refine .k2 ?_|refine .k6 ?_|refine .r1 ?_ ?_|(refine .m2 ?_ ?_;intro hlen)|fail)
 all_goals(try simp only[BL]at *)
 refine cr (fun m rg σ'=>∃ i:Nat,i≤fs.length∧m=fs.length-i∧(∀ j,j<i→¬(fs.getD j default).name=x.table)∧σ'=σ∧rg=[(0,.sl false 4 (fs.map bj.cells)),(1,.cl 221 [] [.pc x.row]),(7,iv fs.length),(8,iv i)]) fs.length rfl ⟨_,_,Zr,Zs,0,ZM _,rfl,fun j hj=>absurd hj (by omega),rfl,rfl⟩ ?_
 rintro m _ _ ⟨i,hi,hn,hp,rfl,rfl⟩
 repeat'(first|exact .nil|refine .k0 ?_|refine .k1 ?_|refine .k2 ?_|refine .k6 ?_|refine .k7 ?_|refine .k8 ?_|refine .k9 ?_|(refine .cd ?_ ?_<;>(intro hc;skip))|refine .r1 ?_ ?_|refine .t1 ?_ ?_ ?_|refine .an rfl (by intro aI;exact aiM _ _) ?_ ?_|fail)
 try any_goals(exact Zo)
 all_goals(try simp only[BL]at *)
 ·rw[rY (p:=fun t:bj=>decide (t.name=x.table)) (l:=fs) (k:=0) (i:=i) (fun j hj=>Zh (hp j hj)) (by omega) (YJ hc),ZH]
  exact Zw
 ·refine⟨fs.length-(i+1),by omega,_,_,Zr,Zs,i+1,by omega,rfl,iM hp hc,rfl,by rw[cm (n:=fs.length) (by omega) (by assumption)]⟩
 ·rw[rZ (fun y hy=>Zh (nz (p:=fun y:bj=>¬y.name=x.table) (fun j hj=>hp j (by omega)) y hy))]
  exact Zw
theorem abv{fs:List bj}{n:af}:(xb fs n=none∧firstIdx (fun x=>decide (x.name=n)) fs 0= -1)∨∃ i:Nat,i<fs.length∧firstIdx (fun x=>decide (x.name=n)) fs 0=(i:Int)∧xb fs n=some (fs.getD i default):=by
 rcases Gz (fun x:bj=>decide (x.name=n)) fs 0 with h|⟨i,h1,h2,h3⟩
 ·exact .inl h
 ·exact .inr ⟨i,h1,by rw[h2,ZH],h3⟩
def Ba(k:Int):FuncId:=if k=1 then 269 else if k=2 then 270 else if k=3 then 271 else if k=4 then 272 else if k=5 then 273 else if k=6 then 274 else if k=7 then 275 else if k=8 then 276 else 277
theorem R1(c:au)(e0:af)(tb:Option bj)(k:Int)(hk:1≤k∧k≤9):Pure prog 224 [.agg (eN c e0 (fG tb)),iv k] (.cl (Ba k) [.agg (eN c e0 (fG tb))] []):=by
 have h:k=1∨k=2∨k=3∨k=4∨k=5∨k=6∨k=7∨k=8∨k=9:=by omega
 cases tb<;>rcases h with rfl|rfl|rfl|rfl|rfl|rfl|rfl|rfl|rfl
 all_goals
  refine adR.p fun σ=> ?_
  repeat'(first|exact .nil|refine .k0 ?_|refine .k1 ?_|refine .k2 ?_|refine .k7 ?_|refine .r1 ?_ ?_|(refine .m1 ?_ ?_;intro b)|(refine .l3 ?_;intro b)|refine .r6 ?_ ?_|refine .r7 ?_ ?_|fail)
  all_goals(try simp only[BL]at *)
  all_goals exact Sx.Fin.intro Zs rfl
set_option maxHeartbeats 16000000
def fU(l:List aC)(n:af):Int:=((l.filter fun f=>decide (f.name=n)).map aC.exp).sum
def x9(l:List aC):List aC×Int:=
 let ns:=kH (l.map aC.name)
 if∃ n∈ns,fU l n>8∨fU l n< -8 then([],70)else
 let u:=(ns.map fun n=>(⟨n,fU l n⟩:aC)).filter fun f=>decide (f.exp≠0)
 if u.length>4 then([],2)else(u,0)
def lg(a b:List aC)(sg:Int):List aC×Int:=
 if jc a≠0 then([],jc a)else if jc b≠0 then([],jc b)else x9 (a++b.map fun f=>(⟨f.name,sg * f.exp⟩:aC))
abbrev yx(u:List aC×Int):AV:= .bo [.sl false 2 (u.1.map aC.cells),iv u.2]
def lK:Prop:=∀ a b:List aC,Sx.Pure prog 325 [.sl false 2 (a.map aC.cells),.sl false 2 (b.map aC.cells)] (yx (lg a b 1))
def lJ:Prop:=∀ a b:List aC,Sx.Pure prog 326 [.sl false 2 (a.map aC.cells),.sl false 2 (b.map aC.cells)] (yx (lg a b (-1)))
def vD:af:=(⟨#[97,110,100]⟩:af)
def vJ:af:=(⟨#[111,114]⟩:af)
def vG:af:=(⟨#[61,61]⟩:af)
def vI:af:=(⟨#[33,61]⟩:af)
def tp:af:=(⟨#[60]⟩:af)
def tn:af:=(⟨#[60,61]⟩:af)
def vH:af:=(⟨#[42]⟩:af)
def vF:af:=(⟨#[47]⟩:af)
def vC:af:=(⟨#[43]⟩:af)
def vK:af:=(⟨#[45]⟩:af)
def KN:Ty:=⟨1,[],s0⟩
def lB(o:af)(a b:Ty):Ty×Int:=
 if o=vD∨o=vJ then(if a.kind=1∧b.kind=1 then(KN,0)else(dO,5))
 else if o=vG∨o=vI∨o=tp∨o=tn then
  (if Num a∧Num b∧a.unit≠b.unit then(dO,70)
   else if(Num a∧Num b)∨(if o=tp∨o=tn then a.kind=4∧b.kind=4 else a.kind=b.kind∧a.of=b.of∧a.unit=b.unit)then(KN,0)else(dO,5))
 else if¬(Num a∧Num b)then(dO,5)
 else if o=vH then(if(lg a.unit b.unit 1).2≠0 then(dO,70)else(⟨max a.kind b.kind,(lg a.unit b.unit 1).1,s0⟩,0))
 else if o=vF then(if(lg a.unit b.unit (-1)).2≠0 then(dO,70)else(⟨3,(lg a.unit b.unit (-1)).1,s0⟩,0))
 else if(o=vC∨o=vK)∧a.unit≠b.unit then(dO,70)else(⟨max a.kind b.kind,a.unit,s0⟩,0)
theorem aer(a b:Int):(if b>a then b else a)=max a b:=by rw[Int.max_def];split<;>split<;>omega
theorem Wi(hT:lK)(hO:lJ)(c:au)(e0:af)(tb:Option bj)(x:Ex)(l:List Ty)(hl:l.length=2):Pure prog 275 [.agg (eN c e0 (fG tb)),.agg x.row,oN l] (jb (lB x.op (l.getD 0 default) (l.getD 1 default))):=by
 unfold lK at hT
 unfold lJ at hO
 cases tb
 all_goals
  refine aea.p fun σ=> ?_
  repeat'(first|exact .nil|refine .k0 ?_|refine .k1 ?_|refine .k2 ?_|refine .k3 ?_|refine .k4 ?_|refine .k6 ?_|refine .k7 ?_|refine .k9 ?_|(refine .cd ?_ ?_<;>(intro hc;first|exact kf hc (by assumption)|skip))|refine .r1 ?_ ?_|(refine .l1 ?_;intro b)|(refine .m1 ?_ ?_;intro b)|refine .t1 ?_ ?_ ?_|refine .an rfl (by intro aI;first|exact DF _|exact SN _ _|exact jI _|exact hT _ _|exact hO _ _) ?_ ?_|fail)
  try any_goals(exact Zo)
  all_goals(try simp only[BL]at *)
  all_goals try(show(0:Int)≤_∧_;omega)
  all_goals clear hl hT hO
  all_goals generalize l.getD 0 default=A at *
  all_goals generalize l.getD 1 default=B at *
  all_goals try simp only[ZU,YV,aer]
  all_goals first
   |(rw[show lB x.op A B=(dO,5)from by unfold lB vD vJ vG vI tp tn vH vF vC vK;grind];(refine Sx.Fin.wk Zs ?_;repeat' first|exact .refl _|exact .nil|refine .cons ?_ ?_|refine .bo ?_|refine .agg ?_|fail);done)
   |(rw[show lB x.op A B=(KN,0)from by unfold lB vD vJ vG vI tp tn vH vF vC vK;grind];(refine Sx.Fin.wk Zs ?_;repeat' first|exact .refl _|exact .nil|refine .cons ?_ ?_|refine .bo ?_|refine .agg ?_|fail);done)
   |(rw[show lB x.op A B=(dO,70)from by unfold lB vD vJ vG vI tp tn vH vF vC vK;grind];(refine Sx.Fin.wk Zs ?_;repeat' first|exact .refl _|fail);done)
   |(rw[show lB x.op A B=(⟨max A.kind B.kind,A.unit,s0⟩,0)from by unfold lB vD vJ vG vI tp tn vH vF vC vK;grind];(refine Sx.Fin.wk Zs ?_;repeat' first|exact .refl _|fail);done)
   |(rw[show lB x.op A B=(⟨max A.kind B.kind,(lg A.unit B.unit 1).1,s0⟩,0)from by unfold lB vD vJ vG vI tp tn vH vF vC vK;grind];(refine Sx.Fin.wk Zs ?_;repeat' first|exact .refl _|fail);done)
   |(rw[show lB x.op A B=(⟨3,(lg A.unit B.unit (-1)).1,s0⟩,0)from by unfold lB vD vJ vG vI tp tn vH vF vC vK;grind];(refine Sx.Fin.wk Zs ?_;repeat' first|exact .refl _|fail);done)
   |trace_state
set_option maxHeartbeats 16000000
def D6(c:au)(e0:af)(tb:Option bj)(x:Ex)(l:List Ty):Ty×Int:=
 if x.kind=1 then(⟨x.val.kind,x.unit,x.name⟩,0)
 else if x.kind=2 then(match tb with|some t=>CG t.fields x.name|none=>(dO,0))
 else if x.kind=3 then te c.features x.name e0
 else if x.kind=4 then(if(l.getD 0 default).kind=5 then te c.features x.name (l.getD 0 default).of else(dO,5))
 else if x.kind=5 then pW x.op (l.getD 0 default) (l.getD 1 default)
 else if x.kind=6 then tO x.op (l.getD 0 default)
 else if x.kind=7 then lB x.op (l.getD 0 default) (l.getD 1 default)
 else if x.kind=8 then(if(l.getD 0 default).kind=1 then q6 (l.getD 1 default) (l.getD 2 default)else(dO,5))
 else q6 (l.getD 0 default) (l.getD 1 default)
def ov(c:au)(e0:af)(tb:Option bj)(x:Ex):Option bj×Int:=
 if x.kind=5 then(match xb c.tables x.table with
  |none=>(none,4)
  |some t=>if t.dx=e0 then(some t,0)else(none,5))else(tb,0)
def rX(c:au)(e0:af)(tb:Option bj)(x:Ex)(q:Int)(s:List Ty×Int):Ty×Int:=if q≠0 then(dO,q)else if s.2≠0 then(dO,s.2)else D6 c e0 tb x s.1
mutual
def inf(c:au)(e0:af):Ex→Option bj→Ty×Int
 | .mk k o n t v u p w ks,tb=>rX c e0 tb (.mk k o n t v u p w ks) (ov c e0 tb (.mk k o n t v u p w ks)).2 (gz c e0 ks (ov c e0 tb (.mk k o n t v u p w ks)).1)
def gz(c:au)(e0:af):List Ex→Option bj→List Ty×Int
 |[],_=>([],0)
 |x::l,tb=>if(inf c e0 x tb).2≠0 then([],(inf c e0 x tb).2)else((inf c e0 x tb).1::(gz c e0 l tb).1,(gz c e0 l tb).2)
end
theorem Pp(c:au)(e0:af)(x:Ex)(tb:Option bj):inf c e0 x tb=rX c e0 tb x (ov c e0 tb x).2 (gz c e0 x.args (ov c e0 tb x).1):=by
 cases x;rw[inf];rfl
theorem Jj(c:au)(e0:af){l:List Ex}{i:Nat}(hi:i<l.length)(tb:Option bj):gz c e0 (l.drop i) tb=if(inf c e0 (l.getD i default) tb).2≠0 then([],(inf c e0 (l.getD i default) tb).2)else((inf c e0 (l.getD i default) tb).1::(gz c e0 (l.drop (i+1)) tb).1,(gz c e0 (l.drop (i+1)) tb).2):=by
 have e:l.drop i=l.getD i default::l.drop (i+1):=by rw[getD_eq hi,Xn]
 rw[e,gz]
theorem CH{ins:Bool}{x:Ex}(h:form ins x=true):(x.kind=1∧x.args.length=0)∨(x.kind=2∧ins=true∧x.args.length=0)∨(x.kind=3∧ins=false∧x.args.length=0)∨(x.kind=4∧ins=false∧x.args.length=1)∨(x.kind=5∧ins=false∧x.args.length=2)∨(x.kind=6∧x.args.length=1)∨(x.kind=7∧x.args.length=2)∨(x.kind=8∧x.args.length=3)∨(x.kind=9∧x.args.length=2):=by
 obtain⟨h1,h2,_⟩:=(ux ins x).1 h
 unfold qQ at h1
 unfold qR at h2
 by_cases e1:x.kind=1
 ·rw[Z7 (by omega),Z7 (by omega),Z7 (by omega)]at h2;left;omega
 rw[Z7 e1]at h1
 by_cases e2:x.kind=2
 ·rw[ZV e2]at h1;rw[Z7 (by omega),Z7 (by omega),Z7 (by omega)]at h2;have:=h1.1;right;left;exact⟨e2,this,by omega⟩
 rw[Z7 e2]at h1
 by_cases e3:x.kind=3∨x.kind=4
 ·rw[ZV e3]at h1
  rcases e3 with e|e
  ·rw[Z7 (by omega),Z7 (by omega),Z7 (by omega)]at h2;exact .inr (.inr (.inl ⟨e,h1.1,by omega⟩))
  ·rw[ZV (by omega)]at h2;exact .inr (.inr (.inr (.inl ⟨e,h1.1,by omega⟩)))
 rw[Z7 e3]at h1
 by_cases e5:x.kind=5
 ·rw[ZV e5]at h1;rw[Z7 (by omega),ZV (by omega)]at h2;exact .inr (.inr (.inr (.inr (.inl ⟨e5,h1.1,by omega⟩))))
 rw[Z7 e5]at h1
 by_cases e6:x.kind=6
 ·rw[ZV (by omega)]at h2;exact .inr (.inr (.inr (.inr (.inr (.inl ⟨e6,by omega⟩)))))
 rw[Z7 e6]at h1
 by_cases e7:x.kind=7
 ·rw[Z7 (by omega),ZV (by omega)]at h2;exact .inr (.inr (.inr (.inr (.inr (.inr (.inl ⟨e7,by omega⟩))))))
 rw[Z7 e7]at h1
 by_cases e8:x.kind=8∨x.kind=9
 ·rcases e8 with e|e
  ·rw[Z7 (by omega),Z7 (by omega),ZV e]at h2;exact .inr (.inr (.inr (.inr (.inr (.inr (.inr (.inl ⟨e,by omega⟩)))))))
  ·rw[Z7 (by omega),ZV (by omega)]at h2;exact .inr (.inr (.inr (.inr (.inr (.inr (.inr (.inr ⟨e,by omega⟩)))))))
 ·rw[Z7 e8]at h1;exact h1.elim
theorem R0(hT:lK)(hO:lJ)(c:au)(e0:af)(tb:Option bj)(x:Ex)(hf:form tb.isSome x=true)(l:List Ty)(hl:l.length=x.args.length):Pure prog (Ba x.kind) [.agg (eN c e0 (fG tb)),.agg x.row,oN l] (jb (D6 c e0 tb x l)):=by
 unfold D6 Ba
 rcases CH hf with⟨h,h1⟩|⟨h,h0,h1⟩|⟨h,h0,h1⟩|⟨h,h0,h1⟩|⟨h,h0,h1⟩|⟨h,h1⟩|⟨h,h1⟩|⟨h,h1⟩|⟨h,h1⟩<;>rw[h]
 ·exact aeO c e0 tb x l
 ·cases tb with
  |none=>cases h0
  |some t=>exact abp c e0 t x l
 ·cases tb with
  |none=>exact aa9 c e0 x l
  |some t=>cases h0
 ·cases tb with
  |none=>exact aeP c e0 x l (by omega)
  |some t=>cases h0
 ·cases tb with
  |none=>exact VG c e0 x l (by omega)
  |some t=>cases h0
 ·exact ai6 c e0 tb x l (by omega)
 ·exact Wi hT hO c e0 tb x l (by omega)
 ·exact WT c e0 tb x l (by omega)
 ·exact aa4 c e0 tb x l (by omega)
def BK(rows:List (List AV))(y:AV)(τ:Store):Prop:=(rows=[]∧y=iU∧τ=[])∨∃ b u c,y= .own 3 66 b u c rows∧τ=[(66,b,.tail u c)]
theorem GY{L:List Ty}{y:AV}{τ:Store}(h:BK (L.map Ty.cells) y τ):Wk y (oN L):=by
 rcases h with⟨hE,rfl,rfl⟩|⟨b,u,c,rfl,rfl⟩
 ·rw[Xz.1 hE];exact .nil
 ·exact .own _
theorem Gt{c:au}{e0:af}{tb:Option bj}{x:Ex}{l:List Ty}{e:Int}(h:¬e=0):rX c e0 tb x 0 (l,e)=(dO,e):=by
 unfold rX;rw[Z7 (by simp),ZV h]
theorem Gu{c:au}{e0:af}{tb:Option bj}{x:Ex}{l:List Ty}:rX c e0 tb x 0 (l++[],0)=D6 c e0 tb x l:=by
 unfold rX;rw[Z7 (by simp),Z7 (by simp),YP]
theorem J9(k:Int):gR prog (Ba k)=true:=by
 unfold Ba
 repeat' first|rfl|split
def yM(C:au)(e0:af)(x:Ex):Prop:=∀ tb,form tb.isSome x=true→Sx.Pure prog 178 [.agg (eN C e0 (fG tb)),.agg x.row] (jb (inf C e0 x tb))
theorem acX(hT:lK)(hO:lJ)(C:au)(e0:af)(x:Ex)(ih:∀ i,i<x.args.length→yM C e0 (x.args.getD i default))(tb:Option bj)(hf:form tb.isSome x=true)(hk:¬x.kind=5):Pure prog 178 [.agg (eN C e0 (fG tb)),.agg x.row] (jb (inf C e0 x tb)):=by
 have mU:=CH hf
 have hB:=R1 C e0 tb x.kind (by omega)
 have mN:=R0 hT hO C e0 tb x hf
 have Hw:x.args.length≤3:=by omega
 have qv:∀ i,i<x.args.length→form tb.isSome (x.args.getD i default)=true:=fun i hi=>by
  have:=((ux _ x).1 hf).2.2.1 _ (dp hi)
  rwa [Zh hk,Bool.or_false]at this
 have hA0:=fun(i:Nat) (h:i<x.args.length)=>ih i h tb (qv i h)
 have de:ov C e0 tb x=(tb,0):=Z7 hk
 rw[Pp,de]
 simp only[Ex.kE x]at mN ⊢
 rcases tb with _|tab
 all_goals
  refine DH.p fun σ=> ?_
  refine .k1 ?_
  refine .k2 ?_
  repeat'((fail_if_success (show WK _ _ _ _ _ _ _ _));(first|exact .nil|refine .k0 ?_|refine .k1 ?_|refine .r1 ?_ ?_|(refine .l1 ?_;intro b)|(refine .m1 ?_ ?_;intro b)|fail))
  refine .k0 ?_
  rename_i b2 b3
  rename Nat=>b4
  refine rL 3 b3 (.there .here) (.same (.p0 (.same .nil))) ?_
  repeat'(first|exact .nil|refine .k0 ?_|refine .k1 ?_|refine .k2 ?_|refine .k6 ?_|refine .k9 ?_|(refine .cd ?_ ?_<;>(intro hc;skip))|refine .r1 ?_ ?_|(refine .l1 ?_;intro b)|(refine .m2 ?_ ?_;intro hlen)|fail)
  all_goals(try simp only[BL]at *)
  all_goals try(exfalso;exact hk hc)
  rename Nat=>b6
 ·refine cr (fun m rg σ'=>∃ (i:Nat) (L:List Ty) (y:AV) (τ:Store),i≤x.args.length∧m=x.args.length-i∧L.length=i∧gz C e0 x.args none=(L++(gz C e0 (x.args.drop i) none).1,(gz C e0 (x.args.drop i) none).2)∧BK (L.map Ty.cells) y τ∧σ'=τ++(6,b6,aZ.cells (eN C e0 (fG none)))::(4,b4,aZ.cells [iv 0,iU,sv s0])::(2,b2,aZ.cells (eN C e0 (fG none)))::σ∧rg=[(2,.lp 2 b2 0),(3,.pc x.lay),(4,.lp 4 b4 0),(6,.lp 6 b6 0),(9,y),(45,.sl false 12 (x.args.map Ex.row)),(46,iv x.args.length),(47,iv i)]) x.args.length rfl ⟨_,_,Zr,Zs,0,[],_,_,ZM _,rfl,rfl,rfl,.inl ⟨rfl,rfl,rfl⟩,rfl,rfl⟩ ?_
  rintro m _ _ ⟨i,L,y,τ,hi,hm,hL,nZ,hG,rfl,rfl⟩
  have hW:=GY hG
  have bY:=fun(h:L.length=x.args.length)=>(mN L h).wk (.cons (.refl _) (.cons (.refl _) (.cons hW .nil)))
  have hA:=hA0 i
  have hd:=fun(h:i<x.args.length) TB=>Jj C e0 h TB
  have xi:=hG
  rcases hG with⟨hE,rfl,rfl⟩|⟨b7,u7,c7,rfl,rfl⟩
  all_goals
   repeat'(first|exact .nil|refine .k0 ?_|refine .k1 ?_|refine .k2 ?_|refine .k3 ?_|refine .k6 ?_|refine .k7 ?_|refine .k8 ?_|refine .k9 ?_|(refine .cd ?_ ?_<;>(intro hc;skip))|refine .r1 ?_ ?_|(refine .l1 ?_;intro b)|refine .t1 ?_ ?_ ?_|refine .u1 ?_ ?_ ?_ (fun b u c=> ?_)|refine .u2 ?_ ?_ ?_ (fun b u c=> ?_)|refine .an rfl (by intro aI;first|exact jI _|exact hA (by(simp only[BL]at *;omega))|exact hB) ?_ ?_|(show List.all _ _=true;rfl)|fail)
   try any_goals(exact Zo)
   all_goals(try simp only[BL]at *)
   all_goals try(refine BT rfl (J9 _) (fun _=>bY (by omega)) OB.nil ?_)
   all_goals repeat'(first|exact .nil|refine .k0 ?_|refine .k1 ?_|refine .k7 ?_|refine .r1 ?_ ?_|fail)
   all_goals try any_goals(fail)
   all_goals(try simp only[BL]at *)
   all_goals try(show _≤1000000;simp only[ZS,ZA];omega)
   all_goals try(show _ * _≤_;simp only[ZW,ZS,ZA];omega)
   all_goals first
    |(show Sx.Fin _ _ _ _
      have bW:i<x.args.length:=by omega
      rw[nZ,hd bW,ZV hc,Gt hc];exact Zw;done)
    |(show Sx.Fin _ _ _ _
      have bW:i=x.args.length:=by omega
      subst bW
      rw[nZ,Yq,gz,Gu];exact Zw;done)
    |(have bW:i<x.args.length:=by omega
      refine⟨m-1,by omega,_,[(66,b,.tail u c)]++(6,b6,aZ.cells (eN C e0 (fG none)))::(4,b4,aZ.cells [iv 0,iU,sv s0])::(2,b2,aZ.cells (eN C e0 (fG none)))::σ,Zr,Zs,i+1,L++[(inf C e0 (x.args.getD i default) none).1],_,_,by omega,by omega,by simp[hL],?_,.inr ⟨b,u,c,?_,rfl⟩,rfl,by rw[cm (n:=50) (by omega) (by decide)]⟩
      ·rw[nZ,hd bW,Z7 (by rw[hc];simp)];simp
      ·rw[YZ];first|rfl|(rw[hE];rfl))
 ·refine cr (fun m rg σ'=>∃ (i:Nat) (L:List Ty) (y:AV) (τ:Store),i≤x.args.length∧m=x.args.length-i∧L.length=i∧gz C e0 x.args (some tab)=(L++(gz C e0 (x.args.drop i) (some tab)).1,(gz C e0 (x.args.drop i) (some tab)).2)∧BK (L.map Ty.cells) y τ∧σ'=τ++(6,b6,aZ.cells (eN C e0 (fG (some tab))))::(4,b4,aZ.cells [iv 0,iU,sv s0])::(2,b2,aZ.cells (eN C e0 (fG (some tab))))::σ∧rg=[(2,.lp 2 b2 0),(3,.pc x.lay),(4,.lp 4 b4 0),(6,.lp 6 b6 0),(9,y),(45,.sl false 12 (x.args.map Ex.row)),(46,iv x.args.length),(47,iv i)]) x.args.length rfl ⟨_,_,Zr,Zs,0,[],_,_,ZM _,rfl,rfl,rfl,.inl ⟨rfl,rfl,rfl⟩,rfl,rfl⟩ ?_
  rintro m _ _ ⟨i,L,y,τ,hi,hm,hL,nZ,hG,rfl,rfl⟩
  have hW:=GY hG
  have bY:=fun(h:L.length=x.args.length)=>(mN L h).wk (.cons (.refl _) (.cons (.refl _) (.cons hW .nil)))
  have hA:=hA0 i
  have hd:=fun(h:i<x.args.length) TB=>Jj C e0 h TB
  have xi:=hG
  rcases hG with⟨hE,rfl,rfl⟩|⟨b7,u7,c7,rfl,rfl⟩
  all_goals
   repeat'(first|exact .nil|refine .k0 ?_|refine .k1 ?_|refine .k2 ?_|refine .k3 ?_|refine .k6 ?_|refine .k7 ?_|refine .k8 ?_|refine .k9 ?_|(refine .cd ?_ ?_<;>(intro hc;skip))|refine .r1 ?_ ?_|(refine .l1 ?_;intro b)|refine .t1 ?_ ?_ ?_|refine .u1 ?_ ?_ ?_ (fun b u c=> ?_)|refine .u2 ?_ ?_ ?_ (fun b u c=> ?_)|refine .an rfl (by intro aI;first|exact jI _|exact hA (by(simp only[BL]at *;omega))|exact hB) ?_ ?_|(show List.all _ _=true;rfl)|fail)
   try any_goals(exact Zo)
   all_goals(try simp only[BL]at *)
   all_goals try(refine BT rfl (J9 _) (fun _=>bY (by omega)) OB.nil ?_)
   all_goals repeat'(first|exact .nil|refine .k0 ?_|refine .k1 ?_|refine .k7 ?_|refine .r1 ?_ ?_|fail)
   all_goals try any_goals(fail)
   all_goals(try simp only[BL]at *)
   all_goals try(show _≤1000000;simp only[ZS,ZA];omega)
   all_goals try(show _ * _≤_;simp only[ZW,ZS,ZA];omega)
   all_goals first
    |(show Sx.Fin _ _ _ _
      have bW:i<x.args.length:=by omega
      rw[nZ,hd bW,ZV hc,Gt hc];exact Zw;done)
    |(show Sx.Fin _ _ _ _
      have bW:i=x.args.length:=by omega
      subst bW
      rw[nZ,Yq,gz,Gu];exact Zw;done)
    |(have bW:i<x.args.length:=by omega
      refine⟨m-1,by omega,_,[(66,b,.tail u c)]++(6,b6,aZ.cells (eN C e0 (fG (some tab))))::(4,b4,aZ.cells [iv 0,iU,sv s0])::(2,b2,aZ.cells (eN C e0 (fG (some tab))))::σ,Zr,Zs,i+1,L++[(inf C e0 (x.args.getD i default) (some tab)).1],_,_,by omega,by omega,by simp[hL],?_,.inr ⟨b,u,c,?_,rfl⟩,rfl,by rw[cm (n:=50) (by omega) (by decide)]⟩
      ·rw[nZ,hd bW,Z7 (by rw[hc];simp)];simp
      ·rw[YZ];first|rfl|(rw[hE];rfl))
theorem acW(hT:lK)(hO:lJ)(C:au)(e0:af)(x:Ex)(ih:∀ i,i<x.args.length→yM C e0 (x.args.getD i default))(hf:form false x=true)(hk:x.kind=5):Pure prog 178 [.agg (eN C e0 (fG none)),.agg x.row] (jb (inf C e0 x none)):=by
 have mU:=CH hf
 have hB:=R1 C e0 none x.kind (by omega)
 have mN:=R0 hT hO C e0 none x hf
 have Hw:x.args.length≤3:=by omega
 have qv:∀ i,i<x.args.length→form true (x.args.getD i default)=true:=fun i hi=>by
  have:=((ux _ x).1 hf).2.2.1 _ (dp hi)
  rwa [YJ hk,Bool.or_true]at this
 have hA0:=fun(tab:bj) (i:Nat) (h:i<x.args.length)=>ih i h (some tab) (qv i h)
 have hi:=acU C.tables x
 rw[Pp]
 rcases abv (fs:=C.tables) (n:=x.table)with⟨h1,h2⟩|⟨i0,h0,h2,h1⟩
 ·have de:ov C e0 none x=(none,4):=by unfold ov;rw[ZV hk,h1]
  rw[de,show rX C e0 none x 4 (gz C e0 x.args none)=(dO,4)from ZV (by simp)]
  rw[h2]at hi
  simp only[Ex.kE x]at mN hi ⊢
  refine DH.p fun σ=> ?_
  refine .k1 ?_
  refine .k2 ?_
  repeat'((fail_if_success (show WK _ _ _ _ _ _ _ _));(first|exact .nil|refine .k0 ?_|refine .k1 ?_|refine .r1 ?_ ?_|(refine .l1 ?_;intro b)|(refine .m1 ?_ ?_;intro b)|fail))
  refine .k0 ?_
  rename_i b2 b3
  refine rL 3 b3 (.there .here) (.same (.p0 (.same .nil))) ?_
  repeat'(first|exact .nil|refine .k0 ?_|refine .k1 ?_|refine .k2 ?_|refine .k6 ?_|refine .k7 ?_|refine .k9 ?_|(refine .cd ?_ ?_<;>(intro hc;skip))|refine .r1 ?_ ?_|(refine .l1 ?_;intro b)|(refine .m2 ?_ ?_;intro hlen)|refine .t1 ?_ ?_ ?_|refine .an rfl (by intro aI;first|exact hi|exact jI _|fail) ?_ ?_|fail)
  try any_goals(exact Zo)
  all_goals(try simp only[BL]at *)
  all_goals first|(exfalso;omega)|(show Sx.Fin _ _ _ _;(refine Sx.Fin.wk Zs ?_;repeat' first|exact .refl _|fail);done)
 by_cases Da:(C.tables.getD i0 default).dx=e0
 rotate_left
 ·have de:ov C e0 none x=(none,5):=by unfold ov;rw[ZV hk,h1];exact Z7 Da
  rw[de,show rX C e0 none x 5 (gz C e0 x.args none)=(dO,5)from ZV (by simp)]
  rw[h2]at hi
  simp only[Ex.kE x]at mN hi ⊢
  refine DH.p fun σ=> ?_
  refine .k1 ?_
  refine .k2 ?_
  repeat'((fail_if_success (show WK _ _ _ _ _ _ _ _));(first|exact .nil|refine .k0 ?_|refine .k1 ?_|refine .r1 ?_ ?_|(refine .l1 ?_;intro b)|(refine .m1 ?_ ?_;intro b)|fail))
  refine .k0 ?_
  rename_i b2 b3
  refine rL 3 b3 (.there .here) (.same (.p0 (.same .nil))) ?_
  repeat'(first|exact .nil|refine .k0 ?_|refine .k1 ?_|refine .k2 ?_|refine .k6 ?_|refine .k7 ?_|refine .k9 ?_|(refine .cd ?_ ?_<;>(intro hc;skip))|refine .r1 ?_ ?_|(refine .l1 ?_;intro b)|(refine .m2 ?_ ?_;intro hlen)|refine .t1 ?_ ?_ ?_|refine .an rfl (by intro aI;first|exact hi|exact jI _|fail) ?_ ?_|fail)
  try any_goals(exact Zo)
  all_goals(try simp only[BL]at *)
  all_goals first|(exfalso;omega)|(exfalso;exact Da hc)|(show Sx.Fin _ _ _ _;(refine Sx.Fin.wk Zs ?_;repeat' first|exact .refl _|fail);done)
 have de:ov C e0 none x=(some (C.tables.getD i0 default),0):=by unfold ov;rw[ZV hk,h1];exact ZV Da
 rw[de]
 rw[h2]at hi
 simp only[Ex.kE x]at mN hi ⊢
 have hA0:=hA0 (C.tables.getD i0 default)
 refine DH.p fun σ=> ?_
 refine .k1 ?_
 refine .k2 ?_
 repeat'((fail_if_success (show WK _ _ _ _ _ _ _ _));(first|exact .nil|refine .k0 ?_|refine .k1 ?_|refine .r1 ?_ ?_|(refine .l1 ?_;intro b)|(refine .m1 ?_ ?_;intro b)|fail))
 refine .k0 ?_
 rename_i b2 b3
 rename Nat=>b4
 refine rL 3 b3 (.there .here) (.same (.p0 (.same .nil))) ?_
 repeat'((fail_if_success (show WK _ _ _ _ (.az [2,3,4,6,8] _) _ _ _));(first|exact .nil|refine .k0 ?_|refine .k1 ?_|refine .k2 ?_|refine .k6 ?_|refine .k7 ?_|refine .k9 ?_|(refine .cd ?_ ?_<;>(intro hc;skip))|refine .r1 ?_ ?_|(refine .l1 ?_;intro b)|(refine .m2 ?_ ?_;intro hlen)|refine .t1 ?_ ?_ ?_|refine .an rfl (by intro aI;first|exact hi|exact jI _|fail) ?_ ?_|fail))
 try any_goals(exact Zo)
 all_goals(try simp only[BL]at *)
 ·exfalso;omega
 rotate_left
 ·exfalso;exact hc hk
 refine .k0 ?_
 rename_i b6 _
 refine rL 8 b .here (.same (.same (.same (.same (.p0 .nil))))) ?_
 repeat'(first|exact .nil|refine .k0 ?_|refine .k1 ?_|refine .k2 ?_|refine .k6 ?_|refine .k7 ?_|refine .k9 ?_|(refine .cd ?_ ?_<;>(intro hc;skip))|refine .r1 ?_ ?_|(refine .m2 ?_ ?_;intro hlen)|refine .an rfl (by intro aI;first|exact jI _|fail) ?_ ?_|fail)
 all_goals(try simp only[BL]at *)
 ·exfalso;exact hc Da
 refine cr (fun m rg σ'=>∃ (i:Nat) (L:List Ty) (y:AV) (τ:Store),i≤x.args.length∧m=x.args.length-i∧L.length=i∧gz C e0 x.args (some (C.tables.getD i0 default))=(L++(gz C e0 (x.args.drop i) (some (C.tables.getD i0 default))).1,(gz C e0 (x.args.drop i) (some (C.tables.getD i0 default))).2)∧BK (L.map Ty.cells) y τ∧σ'=τ++(6,b6,aZ.cells (eN C e0 (fG (some (C.tables.getD i0 default)))))::(4,b4,aZ.cells [iv 0,iU,sv s0])::(2,b2,aZ.cells (eN C e0 (fG none)))::σ∧rg=[(2,.lp 2 b2 0),(3,.pc x.lay),(4,.lp 4 b4 0),(6,.lp 6 b6 0),(9,y),(45,.sl false 12 (x.args.map Ex.row)),(46,iv x.args.length),(47,iv i)]) x.args.length rfl ⟨_,_,Zr,Zs,0,[],_,_,ZM _,rfl,rfl,rfl,.inl ⟨rfl,rfl,rfl⟩,rfl,rfl⟩ ?_
 rintro m _ _ ⟨i,L,y,τ,hi,hm,hL,nZ,hG,rfl,rfl⟩
 have hW:=GY hG
 have bY:=fun(h:L.length=x.args.length)=>(mN L h).wk (.cons (.refl _) (.cons (.refl _) (.cons hW .nil)))
 have hA:=hA0 i
 have hd:=fun(h:i<x.args.length) TB=>Jj C e0 h TB
 have xi:=hG
 rcases hG with⟨hE,rfl,rfl⟩|⟨b7,u7,c7,rfl,rfl⟩
 all_goals
  repeat'(first|exact .nil|refine .k0 ?_|refine .k1 ?_|refine .k2 ?_|refine .k3 ?_|refine .k6 ?_|refine .k7 ?_|refine .k8 ?_|refine .k9 ?_|(refine .cd ?_ ?_<;>(intro hc;skip))|refine .r1 ?_ ?_|(refine .l1 ?_;intro b)|refine .t1 ?_ ?_ ?_|refine .u1 ?_ ?_ ?_ (fun b u c=> ?_)|refine .u2 ?_ ?_ ?_ (fun b u c=> ?_)|refine .an rfl (by intro aI;first|exact jI _|exact hA (by(simp only[BL]at *;omega))|exact hB) ?_ ?_|(show List.all _ _=true;rfl)|fail)
  try any_goals(exact Zo)
  all_goals(try simp only[BL]at *)
  all_goals try(refine BT rfl (J9 _) (fun _=>bY (by omega)) OB.nil ?_)
  all_goals repeat'(first|exact .nil|refine .k0 ?_|refine .k1 ?_|refine .k7 ?_|refine .r1 ?_ ?_|fail)
  all_goals try any_goals(fail)
  all_goals(try simp only[BL]at *)
  all_goals try(show _≤1000000;simp only[ZS,ZA];omega)
  all_goals try(show _ * _≤_;simp only[ZW,ZS,ZA];omega)
  all_goals first
   |(show Sx.Fin _ _ _ _
     have bW:i<x.args.length:=by omega
     rw[nZ,hd bW,ZV hc,Gt hc];exact Zw;done)
   |(show Sx.Fin _ _ _ _
     have bW:i=x.args.length:=by omega
     subst bW
     rw[nZ,Yq,gz,Gu];exact Zw;done)
   |(have bW:i<x.args.length:=by omega
     refine⟨m-1,by omega,_,[(66,b,.tail u c)]++(6,b6,aZ.cells (eN C e0 (fG (some (C.tables.getD i0 default)))))::(4,b4,aZ.cells [iv 0,iU,sv s0])::(2,b2,aZ.cells (eN C e0 (fG none)))::σ,Zr,Zs,i+1,L++[(inf C e0 (x.args.getD i default) (some (C.tables.getD i0 default))).1],_,_,by omega,by omega,by simp[hL],?_,.inr ⟨b,u,c,?_,rfl⟩,rfl,by rw[cm (n:=50) (by omega) (by decide)]⟩
     ·rw[nZ,hd bW,Z7 (by rw[hc];simp)];simp
     ·rw[YZ];first|rfl|(rw[hE];rfl))
theorem Pq(hT:lK)(hO:lJ)(C:au)(e0:af):∀ (n:Nat) (x:Ex),x.size≤n→yM C e0 x
 |0,x,h=>by cases x;simp[Ex.size]at h
 |n+1,x,h=>fun tb hf=>by
  have ih:∀ i,i<x.args.length→yM C e0 (x.args.getD i default):=fun i hi=>Pq hT hO C e0 n _ (by have:=Ex.Kn x hi;omega)
  by_cases hk:x.kind=5
  ·have h5:tb=none:=by
    rcases CH hf with h|h|h|h|h|h|h|h|h
    all_goals first|omega|skip
    cases tb with
    |none=>rfl
    |some t=>exact absurd h.2.1 (by simp)
   subst h5
   exact acW hT hO C e0 x ih hf hk
  ·exact acX hT hO C e0 x ih tb hf hk
theorem acY(hT:lK)(hO:lJ)(C:au)(e0:af)(x:Ex):yM C e0 x:=Pq hT hO C e0 x.size x (ZX _)
def xV(C:au)(e0:af)(x:Ex):Ty×Int:=if shape x≠0 then(dO,shape x)else inf C e0 x none
theorem aif{x:Ex}(h:shape x=0):form false x=true:=by
 unfold shape at h
 split at h
 ·omega
 ·split at h
  ·assumption
  ·omega
theorem acV(hT:lK)(hO:lJ)(C:au)(e0:af)(x:Ex)(hs:x.size≤100000):Pure prog 127 [.agg C.cells,sv e0,.agg x.row] (jb (xV C e0 x)):=by
 have hS:=Ew x hs
 have hI:=fun(h:shape x=0)=>acY hT hO C e0 x none (aif h)
 unfold xV
 generalize inf C e0 x none=r at *
 generalize shape x=q at *
 refine adn.p fun σ=> ?_
 repeat'(first|exact .nil|refine .k0 ?_|refine .k1 ?_|refine .k2 ?_|refine .k7 ?_|refine .k9 ?_|(refine .cd ?_ ?_<;>(intro hc;skip))|refine .r1 ?_ ?_|(refine .l1 ?_;intro b)|(refine .m1 ?_ ?_;intro b)|refine .an rfl (by intro aI;first|exact hS|exact jI _|exact hI (by(simp only[BL]at *;omega))) ?_ ?_|fail)
 all_goals(try simp only[BL]at *)
 ·rw[ZV hc];exact Zw
 ·rw[Z7 (by simpa using hc)];exact Zw
end Go.Proofs.YthdeaajdmdmfnaaGreatDoor
set_option maxHeartbeats 1000000
namespace Go.Proofs.YthdeaajdmdmfnaaGreatDoor
open _root_.Go.Proofs.Tryz
open Go.Sx Go.Proofs Go.Tb Go.RowKit
def vk(p:af×Int):Value:= .agg #[.string p.1,.int .i64 p.2]
theorem Ky(a b:ByteArray):(a == b)=decide (a=b):=by
 obtain⟨a⟩:=a
 obtain⟨b⟩:=b
 rw[YN]
 show(a == b)=true↔_
 simp
theorem ajt:prog.stoodInHeld 192=false:=by kernel_rfl
theorem S7(w:World)(p q:af×Int):(Op.equal 192 (vk p) (vk q)).run prog w= .ok (decide (p=q)) w:=by
 have h0:=underlying192
 have h1:=underlying9
 have h2:=underlying3
 have h3:=ajt
 have key:∀ d:Nat,(Op.equalIn (d+1+1) 192 (vk p) (vk q)).run prog w= .ok (decide (p=q)) w:=fun d=>by
  simp only[Op.equalIn,vk,Sem.run_bind,aW h0,Result.andThen_ok]
  simp[h3,part,sizeOf,program,isAgg,Op.equalIn,aW h1,aW h2]
  show(if prog.stoodInHeld 192=true then _ else(if(p.fst == q.fst)=false then Result.ok false w else if p.snd=q.snd then Result.ok true w else Result.ok false w))=_
  rw[h3,Z7 (by decide),Ky]
  obtain⟨a,i⟩:=p
  obtain⟨b,j⟩:=q
  by_cases h:a=b
  ·subst h
   by_cases h':i=j
   ·subst h';simp
   ·simp[h']
  ·simp[h]
 exact key 9998
theorem S6(w:World)(b:Bool)(p:af×Int):(Instr.checkKey b 10000 192 (vk p)).run prog w= .ok () w:=by
 have h0:=underlying192
 have h1:=underlying9
 have h2:=underlying3
 have key:∀ d:Nat,(Instr.checkKey b (d+1+1) 192 (vk p)).run prog w= .ok () w:=fun d=>by
  simp only[Instr.checkKey,vk,Sem.run_bind,aW h0,Result.andThen_ok]
  simp[part,sizeOf,program,isAgg,Instr.checkKey,aW h1,aW h2]
 exact key 9998
def vE(vs:List (af×Int)):List (Value×Nat×AV):=vs.zipIdx.map fun p=>(vk p.1,p.2,.v (.bool true))
theorem ajb(vs:List (af×Int))(p:af×Int):vE vs++[(vk p,vs.length,.v (.bool true))]=vE (vs++[p]):=by
 unfold vE;rw[List.zipIdx_append];simp
theorem S8(w:World)(p:af×Int):∀ (vs:List (af×Int)) (l:List MapEntry) (k i:Nat),l.map (fun e=>(e.key,e.born))=(vs.zipIdx k).map (fun q=>(vk q.1,q.2))→RL (fun _ _=>none) (vs.map fun _=> .v (.bool true)) (l.map (·.val))→
  ∃ r,(Instr.findAsking 192 (vk p) l i).run prog w= .ok r w∧(p∈vs→∃ j,r=some (j,.bool true))∧(p∉vs→r=none)
 |[],l,k,i,h,_=>by
  have:l=[]:=by simpa using h
  subst this
  exact⟨none,by simp[Instr.findAsking],fun h=>(by cases h),fun _=>rfl⟩
 |v::vs,l,k,i,h,hv=>by
  cases l with
  |nil=>simp at h
  |cons e l=>
   simp only[List.zipIdx_cons,Zv,Z2,YW]at h
   obtain⟨u,us,e1,h2,h3⟩:=RL.aX (x:= .v (.bool true)) (xs:=vs.map fun _=> .v (.bool true)) hv
   simp only[Zv,Z2]at e1
   obtain⟨r,hr,ha,hb⟩:=S8 w p vs l (k+1) (i+1) h.2 (by rw[e1.2];exact h3)
   by_cases hp:p=v
   ·subst hp
    refine⟨some (i,.bool true),?_,fun _=>⟨i,rfl⟩,fun h=>absurd (ZD) h⟩
    simp only[Instr.findAsking,h.1.1,Sem.run_bind,S7,Result.andThen_ok,decide_true,YX,Sem.run_pure]
    rw[e1.1,h2.ay]
   ·refine⟨r,?_,fun h=>ha ((ZK.1 h).resolve_left hp),fun h=>hb fun h'=>h (ZL _ h')⟩
    simp only[Instr.findAsking,h.1.1,Sem.run_bind,S7,Result.andThen_ok,Zh hp,ZU,YV]
    exact hr
section
variable {M:Mem}{w0:Base}{w:World}{σ:Store}
theorem ajc(vs:List (af×Int)):(vE vs).map (·.2.2)=vs.map fun _=>AV.v (.bool true):=by
 unfold vE
 rw[Yg]
 refine XW (by simp) fun j h1 h2=>by simp
theorem aja(vs:List (af×Int)):(vE vs).map (fun e=>(e.1,e.2.1))=vs.zipIdx.map fun q=>(vk q.1,q.2):=by
 unfold vE;rw[Yg];rfl
theorem agk{vs:List (af×Int)}{l:List Value}(h:RL M (vs.map fun _=>AV.v (.bool true)) l):RL (fun _ _=>none) (vs.map fun _=>AV.v (.bool true)) l:=by
 refine⟨h.1,fun i h1 h2=> ?_⟩
 have:=h.2 i h1 h2
 simp only[Zu]at this ⊢
 rw[this.ay];exact .v _
theorem ajU(w:World):(zeroValue 4).run prog w= .ok (.bool false) w:=by
 have h:(prog.info? 4).map (fun i=>i.zero)=some (some (.bool false)):=by kernel_rfl
 obtain⟨i,h1,h2⟩:=Z9.1 h
 simp[zeroValue,typeInfo,h1,h2]
theorem S9(w:World)(p:af×Int){vs:List (af×Int)}{l:List MapEntry}(h:l.map (fun e=>(e.key,e.born))=(vE vs).map (fun e=>(e.1,e.2.1)))(hv:RL M ((vE vs).map (·.2.2)) (l.map (·.val))):
  ∃ r,(Instr.findKey 192 (vk p) l).run prog w= .ok r w∧(p∈vs→∃ j,r=some (j,.bool true))∧(p∉vs→r=none):=by
 rw[aja]at h
 rw[ajc]at hv
 obtain⟨r,h1,h2,h3⟩:=S8 w p vs l 0 0 h (agk hv)
 refine⟨r,?_,h2,h3⟩
 have hu:=underlying192
 simp only[Instr.findKey,Sem.run_bind,aW hu,Result.andThen_ok]
 cases l with
 |nil=>
  simp only[Instr.findAsking,Sem.run_pure,Result.ok.injEq]at h1
  simp only[Instr.findNow,Sem.run_pure,h1.1]
 |cons e l=>
  have hN:∀ fs,Instr.findNow (.struct fs) (vk p) (e::l) 0=none:=fun _=>rfl
  rw[hN]
  exact h1
def mO(vs:List (af×Int))(p:af×Int):Bool:=vs.any fun q=>decide (q=p)
theorem Hy{vs:List (af×Int)}{p:af×Int}:mO vs p=true↔p∈vs:=by
 unfold mO;rw[Yp];simp
theorem QY{p:af×Int}{v:Value}(h:R M (.agg [sv p.1,iv p.2]) v):v=vk p:=by
 cases h with
 |agg _ cs hl h=>
  match cs,hl,h with
  |[a,b],_,h=>
   have h0:=h 0 (by simp) (by simp)
   have h1:=h 1 (by simp) (by simp)
   simp only[Yx,XM]at h0 h1
   rw[h0.ay,h1.ay];rfl
theorem TT{tg b bX:Nat}{vs:List (af×Int)}{t ty:TypeId}{q:TI}{m k:Operand}{p:af×Int}(hl:aV σ tg=some (b,.map (vE vs) bX)):
  fC prog (.lookup t m k false) ty [.mp 192 4,q] [m,k] [.bD tg b,.agg [sv p.1,iv p.2]] σ fun y σ'=>y= .v (.bool (mO vs p))∧σ'=σ:=by
 intro bx M w0 w ρ hI hR
 simp only[ei,Z2,Zn]at bx
 have ht:=tL bx.1
 obtain⟨v1,cq,e1,h1,bY⟩:=hR.aX
 obtain⟨v2,e2,h2⟩:=bY.cJ
 subst e2
 simp only[Zv,YT,Z2,Zn]at e1
 obtain⟨hM,l,hh,fJ,gu⟩:=hI.qp hl
 have g1:=h1.pN
 have g2:=QY h2
 subst g1 g2
 obtain⟨r,hr,ha,hb⟩:=S9 w p fJ gu
 refine⟨.value (.bool (mO vs p)),w,M,.v (.bool (mO vs p)),.bool (mO vs p),σ,?_,rfl,Mem.le.refl _,hI,.v _,rfl,rfl⟩
 simp only[execOp,e1.1,e1.2,Instr.lookup,Sem.run_bind,aW ht,Result.andThen_ok,getObj,Sem.run,hh,S6,hr,Sem.run_pure]
 by_cases hp:p∈vs
 ·obtain⟨j,rfl⟩:=ha hp
  simp[Hy.2 hp]
 ·rw[hb hp]
  have:mO vs p=false:=by rw[← Ya,Hy];exact hp
  simp[this,ajU]
theorem TU{tg b:Nat}{vs:List (af×Int)}{t ty:TypeId}{q:TI}{m k x:Operand}{p:af×Int}(hl:aV σ tg=some (b,.map (vE vs) vs.length))(hn:mO vs p=false):
  fC prog (.mapUpdate t m k x) ty [.mp 192 4,q] [m,k,x] [.bD tg b,.agg [sv p.1,iv p.2],.v (.bool true)] σ fun y σ'=>y= .v undef∧σ'=du σ tg b (.map (vE (vs++[p])) (vs++[p]).length):=by
 intro bx M w0 w ρ hI hR
 simp only[ei,Z2,Zn]at bx
 have ht:=tL bx.1
 obtain⟨v1,cq,e1,h1,bY⟩:=hR.aX
 obtain⟨v2,oP,e2,h2,dM⟩:=bY.aX
 obtain⟨v3,e3,h3⟩:=dM.cJ
 subst e3 e2
 simp only[Zv,YT,Z2,Zn]at e1
 obtain⟨hM,l,hh,fJ,gu⟩:=hI.qp hl
 have g1:=h1.pN
 have g2:=QY h2
 have g3:=h3.ay
 subst g1 g2 g3
 obtain⟨r,hr,ha,hb⟩:=S9 w p fJ gu
 have hnp:p∉vs:=fun h=>by rw[Hy.2 h]at hn;cases hn
 have u9:=hb hnp
 subst u9
 let w':World:={w with heap:=w.heap.setIfInBounds b (.map (l++[(⟨vk p,.bool true,vs.length⟩:MapEntry)]).toArray (vs.length+1))}
 have aw:b<w.heap.size:=(Z6.1 hh).1
 refine⟨.skip,w',M,.v undef,undef,_,?_,rfl,Mem.le.refl _,?_,.v _,rfl,rfl⟩
 ·have hu:l.toArray.push (⟨vk p,.bool true,vs.length⟩:MapEntry)=(l++[(⟨vk p,.bool true,vs.length⟩:MapEntry)]).toArray:=by apply Yw;simp
  simp only[execOp,e1.1,e1.2.1,e1.2.2,Instr.mapUpdate,Sem.run_bind,aW ht,Result.andThen_ok,getObj,Sem.run,hh,S6,hr,Sem.run_pure,setObj,hu]
  rfl
 ·rw[Z4,YB,← ajb]
  refine hI.yA (w':=w') (y:= .map (vE vs++[(vk p,vs.length,.v (.bool true))]) (vs.length+1)) hl (fun k hk=> ?_) rfl rfl rfl (by simp[w']) hM ⟨hM,l++[⟨vk p,.bool true,vs.length⟩],?_,?_,?_⟩
  ·simp only[w']
   rw[YH (fun e=>hk e.symm)]
  ·simp only[w']
   rw[XG aw]
  ·simp[fJ]
  ·simp only[YZ,Zv,YT]
   exact RL.append gu (RL.cons (.v _) RL.nil)
end
section
variable {cfg:Nat→Nat}{K:ag→Store→Prop}{E:List PanicEntry→Store→Prop}{σ σ':Store}{l:List CI}{d:Nat}{v:AV}{xr:XR}{ps:List Prop}{og:Option Bool}
theorem FA{t:TypeId}{q:TI}{ty:TypeId}{m k:Operand}{tg b b' bX:Nat}{vs:List (af×Int)}{p:af×Int}(h:aS xr none [m,k]=some (og,[.bD tg b,.agg [sv p.1,iv p.2]],ps))(hl:aV σ tg=some (b',.map (vE vs) bX))(hb:b=b')(hps:OB ps)
  (kk:VX prog cfg l K E ((d,.s (.v (.bool (mO vs p))))::xr) σ):VX prog cfg (⟨some d,.cu (.lookup t m k false) ty [.mp 192 4,q] [m,k],none⟩::l) K E xr σ:=by
 obtain⟨hc,he⟩:=cM h
 have dy:=rN h
 subst dy
 subst hb
 constructor
 simp only[fh,cK,aj,he hps rfl]
 refine(TT hl).mono fun y s ⟨e1,e2⟩=> ?_
 subst e1 e2
 exact kk.h
theorem FD{t:TypeId}{q:TI}{ty:TypeId}{m k x:Operand}{tg b b':Nat}{vs:List (af×Int)}{p:af×Int}(h:aS xr none [m,k,x]=some (og,[.bD tg b,.agg [sv p.1,iv p.2],.v (.bool true)],ps))(hl:aV σ tg=some (b',.map (vE vs) vs.length))(hb:b=b')(hn:mO vs p=false)(hu:tP σ tg b (.map (vE (vs++[p])) (vs++[p]).length)=some σ')(hps:OB ps)
  (kk:VX prog cfg l K E xr σ'):VX prog cfg (⟨none,.exts (.mapUpdate t m k x) ty [.mp 192 4,q] [m,k,x],none⟩::l) K E xr σ:=by
 obtain⟨hc,he⟩:=cM h
 have dy:=rN h
 subst dy
 subst hb
 constructor
 simp only[fh,cK,aj,he hps rfl]
 refine(TU hl hn).mono fun y s ⟨e1,e2⟩=> ?_
 rw[Bt hu]at e2
 subst e1 e2
 exact kk.h
end
end Go.Proofs.YthdeaajdmdmfnaaGreatDoor
set_option maxHeartbeats 16000000
namespace Go.Proofs.YthdeaajdmdmfnaaGreatDoor
open Go.Sx Go.Proofs Go.Tb
def pe(C:au)(f:aq):Int:=
 if¬(Name f.name∧Name f.dx)∨f.version<0 then 3 else if kI f.type≠0 then kI f.type
 else if(xV C f.dx f.body).2≠0 then(xV C f.dx f.body).2 else(q6 (xV C f.dx f.body).1 f.type).2
theorem Ni(hT:lK)(hO:lJ)(C:au)(f:aq)(hs:f.body.size≤100000):Pure Tryz.prog 76 [.agg C.cells,.agg f.cells] (iv (pe C f)):=by
 have hI:=acV hT hO C f.dx f.body hs
 unfold pe
 generalize xV C f.dx f.body=r at *
 refine k76.p fun σ=> ?_
 repeat'(first|exact .nil|refine .k0 ?_|refine .k1 ?_|refine .k2 ?_|refine .k4 ?_|refine .k7 ?_|refine .k9 ?_|(refine .cd ?_ ?_<;>(intro hc;skip))|refine .r1 ?_ ?_|(refine .l1 ?_;intro b)|(refine .m1 ?_ ?_;intro b)|refine .an rfl (by intro aI;first|exact qO _|exact yw _|exact hI|exact Ki _ _) ?_ ?_|fail)
 try any_goals(exact Zo)
 all_goals(try simp only[BL]at *)
 all_goals
  refine Sx.Fin.intro Zs (bi ?_)
  grind
def iD(f:aq):Int:=if¬(Name f.name∧Name f.dx)∨f.version<1∨f.version>1099511627776 then 1 else if kI f.type≠0 then kI f.type else shape f.body
def jV(n:Nat)(p:Option af)(s:af):Prop:=match p with
 |none=>False
 |some q=>dU s q=true∨(n<2∧s=q)
instance (n:Nat)(p:Option af)(s:af):Decidable (jV n p s):=by unfold jV;split<;>infer_instance
def eO(n:Nat):Option af→List aq→List (af×Int)→Int×List (af×Int)
 |_,[],vs=>(0,vs)
 |p,f::l,vs=>if iD f≠0 then(iD f,vs)else if jV n p f.name then(1,vs)else if mO vs (f.name,f.version)=true then(121,vs)else eO n (some f.name) l (vs++[(f.name,f.version)])
def LL(C:au)(n:Nat):List aq:=if n=0 then C.features else if n=1 then C.aD else C.past
def yD(C:au):Nat→Nat→List (af×Int)→Int
 |0,_,_=>0
 |k+1,n,vs=>if(eO n none (LL C n) vs).1≠0 then(eO n none (LL C n) vs).1 else yD C k (n+1) (eO n none (LL C n) vs).2
def mz(C:au):Int:=yD C 3 0 []
def la(l:List aq)(i:Nat):Option af:=if i=0 then none else some (l.getD (i-1) default).name
theorem KY(n:Nat){l:List aq}{i:Nat}(hi:i<l.length)(vs:List (af×Int)):eO n (la l i) (l.drop i) vs=
  if iD (l.getD i default)≠0 then(iD (l.getD i default),vs)else if jV n (la l i) (l.getD i default).name then(1,vs)else if mO vs ((l.getD i default).name,(l.getD i default).version)=true then(121,vs)else eO n (la l (i+1)) (l.drop (i+1)) (vs++[((l.getD i default).name,(l.getD i default).version)]):=by
 have e:l.drop i=l.getD i default::l.drop (i+1):=by rw[getD_eq hi,Xn]
 rw[e,eO];rfl
theorem JN{n:Nat}{l:List aq}{i:Nat}{s:af}(hi:i≤maxLen):(0<(i:Int)∧(Op.bytesLess (ByteArray.toList s) (ByteArray.toList (l.getD (IntKind.i64.wrap ((i:Int)-1)).toNat default).name)=true∨(n:Int)<2∧s=(l.getD (IntKind.i64.wrap ((i:Int)-1)).toNat default).name))↔jV n (la l i) s:=by
 unfold la
 by_cases h0:i=0
 ·subst h0;rw[ZV rfl];unfold jV;simp
 ·rw[Z7 h0]
  have e:(IntKind.i64.wrap ((i:Int)-1)).toNat=i-1:=by unfold maxLen at hi;rw[dN (by omega)];omega
  rw[e]
  unfold jV dU
  simp only[]
  constructor
  ·rintro⟨_,h|⟨h,h'⟩⟩
   ·exact .inl h
   ·exact .inr ⟨by omega,h'⟩
  ·rintro(h|⟨h,h'⟩)
   ·exact⟨by omega,.inl h⟩
   ·exact⟨by omega,.inr ⟨by omega,h'⟩⟩
theorem ajs(C:au)(hz:∀ n,∀ f∈LL C n,f.body.size≤100000):Pure Tryz.prog 75 [.agg C.cells] (iv (mz C)):=by
 refine k75.p fun σ=> ?_
 repeat'(first|exact .nil|refine .k0 ?_|refine .k1 ?_|refine .k2 ?_|refine .k6 ?_|refine .r1 ?_ ?_|(refine .m1 ?_ ?_;intro b)|(refine .m3 ?_ ?_;intro hlen)|(refine .l3 ?_;intro b)|fail)
 all_goals(try simp only[BL]at *)
 ·show 3≤1000000;decide
 rename Nat=>b1
 refine cr (fun m rg σ'=>∃ (n:Nat) (vs:List (af×Int)),n≤3∧m=3-n∧mz C=yD C (3-n) n vs∧σ'=(11,b1,.map (vE vs) vs.length)::σ∧rg=[(3,.bD 11 b1),(18,.sl true 1 [[.sl false 18 (C.features.map aq.cells)],[.sl false 18 (C.aD.map aq.cells)],[.sl false 18 (C.past.map aq.cells)]]),(19,iv (3:Nat)),(20,iv n)]) 3 rfl ⟨_,_,Zr,.same (.cons (.refl _)),0,[],by omega,rfl,rfl,rfl,rfl⟩ ?_
 rintro m _ _ ⟨n,vs,hn,hm,hv,rfl,rfl⟩
 have Ak:n=0∨n=1∨n=2∨n=3:=by omega
 rcases Ak with rfl|rfl|rfl|rfl
 ·have gU:mz C=if(eO 0 none C.features vs).1≠0 then(eO 0 none C.features vs).1 else yD C 2 (0+1) (eO 0 none C.features vs).2:=hv
  have gy:∀ f∈C.features,f.body.size≤100000:=hz 0
  repeat'(first|exact .nil|refine .k0 ?_|refine .k1 ?_|refine .k2 ?_|refine .k6 ?_|refine .k7 ?_|refine .k8 ?_|refine .k9 ?_|(refine .cd ?_ ?_<;>(intro hc;skip))|refine .r1 ?_ ?_|(refine .m2 ?_ ?_;intro hlen)|refine .r8 ?_ ?_|fail)
  all_goals(try simp only[BL]at *)
  ·exact⟨trivial,by decide,by show _<((3:Nat):Int);decide⟩
  rotate_left
  ·exfalso;exact hc (by decide)
  refine cr (fun m rg σ'=>∃ (i:Nat) (cq:List (af×Int)),i≤C.features.length∧m=C.features.length-i∧eO 0 none C.features vs=eO 0 (la C.features i) (C.features.drop i) cq∧σ'=(11,b1,.map (vE cq) cq.length)::σ∧rg=[(3,.bD 11 b1),(4,iv (0:Nat)),(5,.sl false 18 (C.features.map aq.cells)),(18,.sl true 1 [[.sl false 18 (C.features.map aq.cells)],[.sl false 18 (C.aD.map aq.cells)],[.sl false 18 (C.past.map aq.cells)]]),(19,iv (3:Nat)),(20,iv (0:Nat)),(25,.sl false 18 (C.features.map aq.cells)),(26,iv C.features.length),(27,iv i)]) C.features.length rfl ⟨_,_,Zr,Zs,0,vs,ZM _,rfl,rfl,rfl,rfl⟩ ?_
  rintro m2 _ _ ⟨i,cq,hi,ew,hL,rfl,rfl⟩
  have hd:=fun(h:i<C.features.length)=>KY 0 h cq
  have zQ:=fun(h:i<C.features.length)=>Ew (C.features.getD i default).body (gy _ (dp h))
  have bW:i≤maxLen:=by omega
  have mV:=JN (n:=0) (l:=C.features) (i:=i) (s:=(C.features.getD i default).name) bW
  have key:∀ e:Int,e≠0→eO 0 (la C.features i) (C.features.drop i) cq=(e,cq)→mz C=e:=fun e h1 h2=>by
   rw[gU,hL,h2,ZV h1]
  repeat'(first|exact .nil|refine .k0 ?_|refine .k1 ?_|refine .k2 ?_|refine .k3 ?_|refine .k4 ?_|refine .k5 ?_|refine .k6 ?_|refine .k7 ?_|refine .k8 ?_|refine .k9 ?_|(refine .cd ?_ ?_<;>(intro hc;skip))|refine .r1 ?_ ?_|(refine .l1 ?_;intro b)|refine .t1 ?_ ?_ ?_|refine .an rfl (by intro aI;first|exact qO _|exact yw _|exact zQ (by(simp only[BL]at *;omega))) ?_ ?_|fail)
  try any_goals(exact Zo)
  all_goals(try simp only[BL]at *)
  ·have ho:iD (C.features.getD i default)=1:=ZV (by grind)
   rw[key 1 (by decide) (by rw[hd (by omega),ho,ZV (by decide)])]
   exact Zw
  ·have ho:iD (C.features.getD i default)=kI (C.features.getD i default).type:=(Z7 (by grind)).trans (ZV hc)
   rw[key _ hc (by rw[hd (by omega),ho,ZV hc])]
   exact Zw
  ·have ho:iD (C.features.getD i default)=shape (C.features.getD i default).body:=(Z7 (by grind)).trans (Z7 (by grind))
   rw[key _ hc (by rw[hd (by omega),ho,ZV hc])]
   exact Zw
  ·have ho:iD (C.features.getD i default)=0:=(Z7 (by grind)).trans ((Z7 (by grind)).trans (by grind))
   rw[key 1 (by decide) (by rw[hd (by omega),ho,Z7 (by decide),ZV (mV.1 hc)])]
   exact Zw
  ·have ho:iD (C.features.getD i default)=0:=(Z7 (by grind)).trans ((Z7 (by grind)).trans (by grind))
   have pC:¬jV 0 (la C.features i) (C.features.getD i default).name:=fun h=>by
    have h2:=mV.2 h
    rcases hc with hc|⟨bV,cG⟩
    ·exact hc h2.1
    ·rcases h2.2 with h3|h3
     ·rw[bV]at h3;cases h3
     ·rcases cG with h4|h4
      ·exact h4 h3.1
      ·exact h4 h3.2
   refine FA (p:=((C.features.getD i default).name,(C.features.getD i default).version)) rfl rfl rfl OB.nil ?_
   repeat'(first|exact .nil|refine .k0 ?_|refine .k1 ?_|refine .k2 ?_|refine .k7 ?_|refine .k9 ?_|(refine .cd ?_ ?_<;>(intro hc;skip))|refine .r1 ?_ ?_|fail)
   all_goals(try simp only[BL]at *)
   ·rw[key 121 (by decide) (by rw[hd (by omega),ho,Z7 (by decide),Z7 pC,ZV hc])]
    exact Zw
   ·refine FD (p:=((C.features.getD i default).name,(C.features.getD i default).version)) rfl rfl rfl hc rfl OB.nil ?_
    repeat'(first|exact .nil|refine .k0 ?_|refine .k1 ?_|refine .k2 ?_|refine .r1 ?_ ?_|fail)
    all_goals(try simp only[BL]at *)
    refine⟨m2-1,by omega,_,_,Zr,Zs,i+1,_,by omega,by omega,?_,rfl,by rw[cm (n:=C.features.length) (by omega) (by assumption)]⟩
    rw[hL,hd (by omega),ho,Z7 (by decide),Z7 pC,Z7 (by rw[hc];decide)]
  ·intro h;unfold maxLen at bW;rw[dN (by omega)];omega
  ·intro h;unfold maxLen at bW;rw[dN (by omega)];omega
  ·have Ad:i=C.features.length:=by omega
   subst Ad
   rw[Yq,eO]at hL
   refine⟨2-0,by omega,_,_,Zr,Zs,0+1,cq,by omega,by omega,?_,rfl,by rw[cm (n:=5) (by omega) (by decide)]⟩
   rw[gU,hL,Z7 (by simp)]
 ·have gU:mz C=if(eO 1 none C.aD vs).1≠0 then(eO 1 none C.aD vs).1 else yD C 1 (1+1) (eO 1 none C.aD vs).2:=hv
  have gy:∀ f∈C.aD,f.body.size≤100000:=hz 1
  repeat'(first|exact .nil|refine .k0 ?_|refine .k1 ?_|refine .k2 ?_|refine .k6 ?_|refine .k7 ?_|refine .k8 ?_|refine .k9 ?_|(refine .cd ?_ ?_<;>(intro hc;skip))|refine .r1 ?_ ?_|(refine .m2 ?_ ?_;intro hlen)|refine .r8 ?_ ?_|fail)
  all_goals(try simp only[BL]at *)
  ·exact⟨trivial,by decide,by show _<((3:Nat):Int);decide⟩
  rotate_left
  ·exfalso;exact hc (by decide)
  refine cr (fun m rg σ'=>∃ (i:Nat) (cq:List (af×Int)),i≤C.aD.length∧m=C.aD.length-i∧eO 1 none C.aD vs=eO 1 (la C.aD i) (C.aD.drop i) cq∧σ'=(11,b1,.map (vE cq) cq.length)::σ∧rg=[(3,.bD 11 b1),(4,iv (1:Nat)),(5,.sl false 18 (C.aD.map aq.cells)),(18,.sl true 1 [[.sl false 18 (C.features.map aq.cells)],[.sl false 18 (C.aD.map aq.cells)],[.sl false 18 (C.past.map aq.cells)]]),(19,iv (3:Nat)),(20,iv (1:Nat)),(25,.sl false 18 (C.aD.map aq.cells)),(26,iv C.aD.length),(27,iv i)]) C.aD.length rfl ⟨_,_,Zr,Zs,0,vs,ZM _,rfl,rfl,rfl,rfl⟩ ?_
  rintro m2 _ _ ⟨i,cq,hi,ew,hL,rfl,rfl⟩
  have hd:=fun(h:i<C.aD.length)=>KY 1 h cq
  have zQ:=fun(h:i<C.aD.length)=>Ew (C.aD.getD i default).body (gy _ (dp h))
  have bW:i≤maxLen:=by omega
  have mV:=JN (n:=1) (l:=C.aD) (i:=i) (s:=(C.aD.getD i default).name) bW
  have key:∀ e:Int,e≠0→eO 1 (la C.aD i) (C.aD.drop i) cq=(e,cq)→mz C=e:=fun e h1 h2=>by
   rw[gU,hL,h2,ZV h1]
  repeat'(first|exact .nil|refine .k0 ?_|refine .k1 ?_|refine .k2 ?_|refine .k3 ?_|refine .k4 ?_|refine .k5 ?_|refine .k6 ?_|refine .k7 ?_|refine .k8 ?_|refine .k9 ?_|(refine .cd ?_ ?_<;>(intro hc;skip))|refine .r1 ?_ ?_|(refine .l1 ?_;intro b)|refine .t1 ?_ ?_ ?_|refine .an rfl (by intro aI;first|exact qO _|exact yw _|exact zQ (by(simp only[BL]at *;omega))) ?_ ?_|fail)
  try any_goals(exact Zo)
  all_goals(try simp only[BL]at *)
  ·have ho:iD (C.aD.getD i default)=1:=ZV (by grind)
   rw[key 1 (by decide) (by rw[hd (by omega),ho,ZV (by decide)])]
   exact Zw
  ·have ho:iD (C.aD.getD i default)=kI (C.aD.getD i default).type:=(Z7 (by grind)).trans (ZV hc)
   rw[key _ hc (by rw[hd (by omega),ho,ZV hc])]
   exact Zw
  ·have ho:iD (C.aD.getD i default)=shape (C.aD.getD i default).body:=(Z7 (by grind)).trans (Z7 (by grind))
   rw[key _ hc (by rw[hd (by omega),ho,ZV hc])]
   exact Zw
  ·have ho:iD (C.aD.getD i default)=0:=(Z7 (by grind)).trans ((Z7 (by grind)).trans (by grind))
   rw[key 1 (by decide) (by rw[hd (by omega),ho,Z7 (by decide),ZV (mV.1 hc)])]
   exact Zw
  ·have ho:iD (C.aD.getD i default)=0:=(Z7 (by grind)).trans ((Z7 (by grind)).trans (by grind))
   have pC:¬jV 1 (la C.aD i) (C.aD.getD i default).name:=fun h=>by
    have h2:=mV.2 h
    rcases hc with hc|⟨bV,cG⟩
    ·exact hc h2.1
    ·rcases h2.2 with h3|h3
     ·rw[bV]at h3;cases h3
     ·rcases cG with h4|h4
      ·exact h4 h3.1
      ·exact h4 h3.2
   refine FA (p:=((C.aD.getD i default).name,(C.aD.getD i default).version)) rfl rfl rfl OB.nil ?_
   repeat'(first|exact .nil|refine .k0 ?_|refine .k1 ?_|refine .k2 ?_|refine .k7 ?_|refine .k9 ?_|(refine .cd ?_ ?_<;>(intro hc;skip))|refine .r1 ?_ ?_|fail)
   all_goals(try simp only[BL]at *)
   ·rw[key 121 (by decide) (by rw[hd (by omega),ho,Z7 (by decide),Z7 pC,ZV hc])]
    exact Zw
   ·refine FD (p:=((C.aD.getD i default).name,(C.aD.getD i default).version)) rfl rfl rfl hc rfl OB.nil ?_
    repeat'(first|exact .nil|refine .k0 ?_|refine .k1 ?_|refine .k2 ?_|refine .r1 ?_ ?_|fail)
    all_goals(try simp only[BL]at *)
    refine⟨m2-1,by omega,_,_,Zr,Zs,i+1,_,by omega,by omega,?_,rfl,by rw[cm (n:=C.aD.length) (by omega) (by assumption)]⟩
    rw[hL,hd (by omega),ho,Z7 (by decide),Z7 pC,Z7 (by rw[hc];decide)]
  ·intro h;unfold maxLen at bW;rw[dN (by omega)];omega
  ·intro h;unfold maxLen at bW;rw[dN (by omega)];omega
  ·have Ad:i=C.aD.length:=by omega
   subst Ad
   rw[Yq,eO]at hL
   refine⟨2-1,by omega,_,_,Zr,Zs,1+1,cq,by omega,by omega,?_,rfl,by rw[cm (n:=5) (by omega) (by decide)]⟩
   rw[gU,hL,Z7 (by simp)]
 ·have gU:mz C=if(eO 2 none C.past vs).1≠0 then(eO 2 none C.past vs).1 else yD C 0 (2+1) (eO 2 none C.past vs).2:=hv
  have gy:∀ f∈C.past,f.body.size≤100000:=hz 2
  repeat'(first|exact .nil|refine .k0 ?_|refine .k1 ?_|refine .k2 ?_|refine .k6 ?_|refine .k7 ?_|refine .k8 ?_|refine .k9 ?_|(refine .cd ?_ ?_<;>(intro hc;skip))|refine .r1 ?_ ?_|(refine .m2 ?_ ?_;intro hlen)|refine .r8 ?_ ?_|fail)
  all_goals(try simp only[BL]at *)
  ·exact⟨trivial,by decide,by show _<((3:Nat):Int);decide⟩
  rotate_left
  ·exfalso;exact hc (by decide)
  refine cr (fun m rg σ'=>∃ (i:Nat) (cq:List (af×Int)),i≤C.past.length∧m=C.past.length-i∧eO 2 none C.past vs=eO 2 (la C.past i) (C.past.drop i) cq∧σ'=(11,b1,.map (vE cq) cq.length)::σ∧rg=[(3,.bD 11 b1),(4,iv (2:Nat)),(5,.sl false 18 (C.past.map aq.cells)),(18,.sl true 1 [[.sl false 18 (C.features.map aq.cells)],[.sl false 18 (C.aD.map aq.cells)],[.sl false 18 (C.past.map aq.cells)]]),(19,iv (3:Nat)),(20,iv (2:Nat)),(25,.sl false 18 (C.past.map aq.cells)),(26,iv C.past.length),(27,iv i)]) C.past.length rfl ⟨_,_,Zr,Zs,0,vs,ZM _,rfl,rfl,rfl,rfl⟩ ?_
  rintro m2 _ _ ⟨i,cq,hi,ew,hL,rfl,rfl⟩
  have hd:=fun(h:i<C.past.length)=>KY 2 h cq
  have zQ:=fun(h:i<C.past.length)=>Ew (C.past.getD i default).body (gy _ (dp h))
  have bW:i≤maxLen:=by omega
  have mV:=JN (n:=2) (l:=C.past) (i:=i) (s:=(C.past.getD i default).name) bW
  have key:∀ e:Int,e≠0→eO 2 (la C.past i) (C.past.drop i) cq=(e,cq)→mz C=e:=fun e h1 h2=>by
   rw[gU,hL,h2,ZV h1]
  repeat'(first|exact .nil|refine .k0 ?_|refine .k1 ?_|refine .k2 ?_|refine .k3 ?_|refine .k4 ?_|refine .k5 ?_|refine .k6 ?_|refine .k7 ?_|refine .k8 ?_|refine .k9 ?_|(refine .cd ?_ ?_<;>(intro hc;skip))|refine .r1 ?_ ?_|(refine .l1 ?_;intro b)|refine .t1 ?_ ?_ ?_|refine .an rfl (by intro aI;first|exact qO _|exact yw _|exact zQ (by(simp only[BL]at *;omega))) ?_ ?_|fail)
  try any_goals(exact Zo)
  all_goals(try simp only[BL]at *)
  ·have ho:iD (C.past.getD i default)=1:=ZV (by grind)
   rw[key 1 (by decide) (by rw[hd (by omega),ho,ZV (by decide)])]
   exact Zw
  ·have ho:iD (C.past.getD i default)=kI (C.past.getD i default).type:=(Z7 (by grind)).trans (ZV hc)
   rw[key _ hc (by rw[hd (by omega),ho,ZV hc])]
   exact Zw
  ·have ho:iD (C.past.getD i default)=shape (C.past.getD i default).body:=(Z7 (by grind)).trans (Z7 (by grind))
   rw[key _ hc (by rw[hd (by omega),ho,ZV hc])]
   exact Zw
  ·have ho:iD (C.past.getD i default)=0:=(Z7 (by grind)).trans ((Z7 (by grind)).trans (by grind))
   rw[key 1 (by decide) (by rw[hd (by omega),ho,Z7 (by decide),ZV (mV.1 hc)])]
   exact Zw
  ·have ho:iD (C.past.getD i default)=0:=(Z7 (by grind)).trans ((Z7 (by grind)).trans (by grind))
   have pC:¬jV 2 (la C.past i) (C.past.getD i default).name:=fun h=>by
    have h2:=mV.2 h
    rcases hc with hc|⟨bV,cG⟩
    ·exact hc h2.1
    ·rcases h2.2 with h3|h3
     ·rw[bV]at h3;cases h3
     ·rcases cG with h4|h4
      ·exact h4 h3.1
      ·exact h4 h3.2
   refine FA (p:=((C.past.getD i default).name,(C.past.getD i default).version)) rfl rfl rfl OB.nil ?_
   repeat'(first|exact .nil|refine .k0 ?_|refine .k1 ?_|refine .k2 ?_|refine .k7 ?_|refine .k9 ?_|(refine .cd ?_ ?_<;>(intro hc;skip))|refine .r1 ?_ ?_|fail)
   all_goals(try simp only[BL]at *)
   ·rw[key 121 (by decide) (by rw[hd (by omega),ho,Z7 (by decide),Z7 pC,ZV hc])]
    exact Zw
   ·refine FD (p:=((C.past.getD i default).name,(C.past.getD i default).version)) rfl rfl rfl hc rfl OB.nil ?_
    repeat'(first|exact .nil|refine .k0 ?_|refine .k1 ?_|refine .k2 ?_|refine .r1 ?_ ?_|fail)
    all_goals(try simp only[BL]at *)
    refine⟨m2-1,by omega,_,_,Zr,Zs,i+1,_,by omega,by omega,?_,rfl,by rw[cm (n:=C.past.length) (by omega) (by assumption)]⟩
    rw[hL,hd (by omega),ho,Z7 (by decide),Z7 pC,Z7 (by rw[hc];decide)]
  ·intro h;unfold maxLen at bW;rw[dN (by omega)];omega
  ·have Ad:i=C.past.length:=by omega
   subst Ad
   rw[Yq,eO]at hL
   refine⟨2-2,by omega,_,_,Zr,Zs,2+1,cq,by omega,by omega,?_,rfl,by rw[cm (n:=5) (by omega) (by decide)]⟩
   rw[gU,hL,Z7 (by simp)]
 ·repeat'(first|exact .nil|refine .k0 ?_|refine .k1 ?_|refine .k2 ?_|refine .k6 ?_|refine .k7 ?_|refine .k8 ?_|refine .k9 ?_|(refine .cd ?_ ?_<;>(intro hc;skip))|refine .r1 ?_ ?_|refine .r8 ?_ ?_|fail)
  all_goals(try simp only[BL]at *)
  all_goals first|(exfalso;exact absurd hc (by decide))|skip
  rw[hv]
  exact Zw
def cI:Option af→List bj→Int
 |_,[]=>0
 |p,t::l=>if my t≠0 then my t else if jV 0 p t.name then 1 else cI (some t.name) l
def mJ(C:au):List aq→Int
 |[]=>0
 |f::l=>if pe C f≠0 then pe C f else mJ C l
open Classical in
noncomputable def nM(C:au):Int:=
 if C.tables.length>16∨C.features.length>32∨C.aD.length>32∨C.past.length>32 then 2
 else if cI none C.tables≠0 then cI none C.tables
 else if mz C≠0 then mz C
 else if mJ C C.features≠0 then mJ C C.features
 else if qm (deps C.features) (cR C.features)≠[]then 120 else 0
def vL(l:List bj)(i:Nat):Option af:=if i=0 then none else some (l.getD (i-1) default).name
theorem afs{l:List bj}{i:Nat}{s:af}(hi:i≤maxLen):(0<(i:Int)∧(Op.bytesLess (ByteArray.toList s) (ByteArray.toList (l.getD (IntKind.i64.wrap ((i:Int)-1)).toNat default).name)=true∨s=(l.getD (IntKind.i64.wrap ((i:Int)-1)).toNat default).name))↔jV 0 (vL l i) s:=by
 unfold vL
 by_cases h0:i=0
 ·subst h0;rw[ZV rfl];unfold jV;simp
 ·rw[Z7 h0]
  have e:(IntKind.i64.wrap ((i:Int)-1)).toNat=i-1:=by unfold maxLen at hi;rw[dN (by omega)];omega
  rw[e]
  unfold jV dU
  simp only[]
  constructor
  ·rintro⟨_,h|h'⟩
   ·exact .inl h
   ·exact .inr ⟨by omega,h'⟩
  ·rintro(h|⟨h,h'⟩)
   ·exact⟨by omega,.inl h⟩
   ·exact⟨by omega,.inr h'⟩
theorem KF{l:List bj}{i:Nat}(hi:i<l.length):cI (vL l i) (l.drop i)=if my (l.getD i default)≠0 then my (l.getD i default)else if jV 0 (vL l i) (l.getD i default).name then 1 else cI (vL l (i+1)) (l.drop (i+1)):=by
 have e:l.drop i=l.getD i default::l.drop (i+1):=by rw[getD_eq hi,Xn]
 rw[e,cI];rfl
theorem Nf(C:au){l:List aq}{i:Nat}(hi:i<l.length):mJ C (l.drop i)=if pe C (l.getD i default)≠0 then pe C (l.getD i default)else mJ C (l.drop (i+1)):=by
 have e:l.drop i=l.getD i default::l.drop (i+1):=by rw[getD_eq hi,Xn]
 rw[e,mJ]
theorem Km:∀ {l:List Ex} {x:Ex},x∈l→x.size≤Ex.cX l
 |y::l,x,h=>by
  rw[Ex.cX]
  rcases ZK.1 h with rfl|h
  ·omega
  ·have:=Km h;omega
theorem Lq{C:au}{n:Nat}{f:aq}(hf:f∈LL C n):f∈C.all:=by
 unfold LL at hf;unfold au.all
 split at hf
 ·exact Zm _ (Zm _ hf)
 ·split at hf
  ·exact Zm _ (Y6 _ hf)
  ·exact Y6 _ hf
theorem WR(hT:lK)(hO:lJ)(C:au)(hz:∀ f∈C.all,f.body.size≤100000)(hf0:wx C.features)(ht:C.tables.length≤100000):Pure Tryz.prog 34 [.agg C.cells] (iv (nM C)):=by
 have hV:=ajs C (fun n f hf=>hz f (Lq hf))
 have sk:=fun(i:Nat) (h:i<C.features.length)=>Ni hT hO C (C.features.getD i default) (hz _ (Lq (n:=0) (show C.features.getD i default∈LL C 0 from dp h)))
 have hY:=aag C hf0
 unfold nM
 generalize qm (deps C.features) (cR C.features)=Y at *
 generalize mz C=ve at *
 refine k34.p fun σ=> ?_
 repeat'(first|exact .nil|refine .k0 ?_|refine .k1 ?_|refine .k2 ?_|refine .k4 ?_|refine .k6 ?_|refine .k7 ?_|refine .k9 ?_|(refine .cd ?_ ?_<;>(intro hc;skip))|refine .r1 ?_ ?_|(refine .m1 ?_ ?_;intro b)|(refine .m2 ?_ ?_;intro hlen)|fail)
 try any_goals(exact Zo)
 all_goals(try simp only[BL]at *)
 ·rw[ZV (by omega)];exact Zw
 rw[Z7 (by omega)]
 rename Nat=>b1
 refine cr (fun m rg σ'=>∃ i:Nat,i≤C.tables.length∧m=C.tables.length-i∧cI none C.tables=cI (vL C.tables i) (C.tables.drop i)∧σ'=(1,b1,.cells C.cells)::σ∧rg=[(1,.lp 1 b1 0),(33,.sl false 4 (C.tables.map bj.cells)),(34,iv C.tables.length),(35,iv i)]) C.tables.length rfl ⟨_,_,Zr,Zs,0,ZM _,rfl,rfl,rfl,rfl⟩ ?_
 rintro m _ _ ⟨i,hi,hm,hL,rfl,rfl⟩
 have bW:i≤maxLen:=by unfold maxLen;omega
 have mV:=afs (l:=C.tables) (i:=i) (s:=(C.tables.getD i default).name) bW
 repeat'(first|exact .nil|refine .k0 ?_|refine .k1 ?_|refine .k2 ?_|refine .k3 ?_|refine .k4 ?_|refine .k5 ?_|refine .k6 ?_|refine .k7 ?_|refine .k8 ?_|refine .k9 ?_|(refine .cd ?_ ?_<;>(intro hc;skip))|refine .r1 ?_ ?_|(refine .l1 ?_;intro b)|(refine .m2 ?_ ?_;intro hlen)|refine .t1 ?_ ?_ ?_|refine .an rfl (by intro aI;first|exact aiO _|exact hV|fail) ?_ ?_|fail)
 try any_goals(exact Zo)
 all_goals(try simp only[BL]at *)
 ·rw[show cI none C.tables=my (C.tables.getD i default) by rw[hL,KF (by omega),ZV hc],ZV hc];exact Zw
 ·rw[show cI none C.tables=1 by rw[hL,KF (by omega),Z7 (by grind),ZV (mV.1 hc)],ZV (by decide)];exact Zw
 ·have pC:¬jV 0 (vL C.tables i) (C.tables.getD i default).name:=fun h=>by
   have h2:=mV.2 h
   rcases hc with hc|⟨bV,cG⟩
   ·exact hc h2.1
   ·rcases h2.2 with h3|h3
    ·rw[bV]at h3;cases h3
    ·exact cG h3
  exact⟨m-1,by omega,_,_,Zr,Zs,i+1,by omega,by omega,by rw[hL,KF (by omega),Z7 (by grind),Z7 pC],rfl,by rw[cm (n:=C.tables.length) (by omega) (by assumption)]⟩
 ·intro h;unfold maxLen at bW;rw[dN (by omega)];omega
 ·have h0:cI none C.tables=0:=by rw[hL,show i=C.tables.length by omega,Yq,cI]
  rw[h0,Z7 (by simp),ZV hc];exact Zw
 have h0:cI none C.tables=0:=by rw[hL,show i=C.tables.length by omega,Yq,cI]
 rw[h0,Z7 (by simp),Z7 (by grind)]
 clear mV bW hL hm hi
 refine cr (fun m rg σ'=>∃ i:Nat,i≤C.features.length∧m=C.features.length-i∧mJ C C.features=mJ C (C.features.drop i)∧σ'=(1,b1,.cells C.cells)::σ∧rg=[(1,.lp 1 b1 0),(66,.sl false 18 (C.features.map aq.cells)),(67,iv C.features.length),(68,iv i)]) C.features.length rfl ⟨_,_,Zr,Zs,0,ZM _,rfl,rfl,rfl,rfl⟩ ?_
 rintro m _ _ ⟨i,hi,hm,hL,rfl,rfl⟩
 have hF:=sk i
 have hY1:Y.length=0↔Y=[]:=Yd
 repeat'(first|exact .nil|refine .k0 ?_|refine .k1 ?_|refine .k2 ?_|refine .k6 ?_|refine .k7 ?_|refine .k8 ?_|refine .k9 ?_|(refine .cd ?_ ?_<;>(intro hc;skip))|refine .r1 ?_ ?_|(refine .l1 ?_;intro b)|(refine .m2 ?_ ?_;intro hlen)|refine .t1 ?_ ?_ ?_|refine .an rfl (by intro aI;first|exact hF (by(simp only[BL]at *;omega))|exact hY) ?_ ?_|fail)
 try any_goals(exact Zo)
 all_goals(try simp only[BL]at *)
 ·rw[show mJ C C.features=pe C (C.features.getD i default) by rw[hL,Nf C (by omega),ZV hc],ZV hc];exact Zw
 ·exact⟨m-1,by omega,_,_,Zr,Zs,i+1,by omega,by omega,by rw[hL,Nf C (by omega),Z7 (by grind)],rfl,by rw[cm (n:=C.features.length) (by omega) (by assumption)]⟩
 all_goals have h1:mJ C C.features=0:=by rw[hL,show i=C.features.length by omega,Yq,mJ]
 all_goals rw[h1,Z7 (by simp)]
 ·rw[ZV (fun h=>by subst h;simp at hc)];exact Zw
 ·rw[Z7 (fun h=>h (hY1.1 (by omega)))];exact Zw
end Go.Proofs.YthdeaajdmdmfnaaGreatDoor
