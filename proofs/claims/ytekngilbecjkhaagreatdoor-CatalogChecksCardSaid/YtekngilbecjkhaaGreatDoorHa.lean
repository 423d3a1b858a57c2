/- The layer: a box that is not written any more becomes a known block. -/
import Derived.Test.YtekngilbecjkhaaGreatDoorGa
import Derived.Test.YtekngilbecjkhaaGreatDoorFb
import Derived.Test.YtekngilbecjkhaaGreatDoorEd
set_option linter.unusedSimpArgs false
set_option linter.unusedVariables false
set_option linter.unusedSectionVars false
namespace Go.Sx
open Go.RowKit Go.Proofs
inductive FzS(t b:Nat)(xs:List AV):Store→Store→Prop
 |here {σ:Store}:FzS t b xs ((t,b,.cells xs)::σ) σ
 |there {e:Nat×Nat×Blk} {σ σ':Store} (h:FzS t b xs σ σ'):FzS t b xs (e::σ) (e::σ')
theorem FzS.perm{t b:Nat}{xs:List AV}{σ σ':Store}(h:FzS t b xs σ σ'):List.Perm σ ((t,b,.cells xs)::σ'):=by
 induction h with
 |here=>exact .refl _
 |there _ ih=>exact(ih.cons _).trans (.swap _ _ _)
inductive FzR(b:Nat)(xs:List AV):Regs→Regs→Prop
 |nil:FzR b xs [] []
 |p0 {i t:Nat} {r r':Regs} (h:FzR b xs r r'):FzR b xs ((i,.lp t b 0)::r) ((i,.pc xs)::r')
 |pt {i t o:Nat} {r r':Regs} (h:FzR b xs r r'):FzR b xs ((i,.lp t b o)::r) ((i,.pc (xs.drop o))::r')
 |same {i:Nat} {x:AV} {r r':Regs} (h:FzR b xs r r'):FzR b xs ((i,x)::r) ((i,x)::r')
theorem FzR.lk{b:Nat}{xs:List AV}{r r':Regs}(h:FzR b xs r r')(i:Nat):lk r' i=lk r i∨∃ t o,lk r i= .lp t b o∧lk r' i= .pc (xs.drop o):=by
 induction h with
 |nil=>exact .inl rfl
 | @p0 j t _ _ _ ih=>
  simp only[Sx.lk]
  cases Nat.beq j i with
  |true=>exact .inr ⟨t,0,rfl,rfl⟩
  |false=>exact ih
 | @pt j t o _ _ _ ih=>
  simp only[Sx.lk]
  cases Nat.beq j i with
  |true=>exact .inr ⟨t,o,rfl,rfl⟩
  |false=>exact ih
 | @same j x _ _ _ ih=>
  simp only[Sx.lk]
  cases Nat.beq j i with
  |true=>exact .inl rfl
  |false=>exact ih
section
variable {P:Program}[Glob P]{M:Mem}{w0 w:World}{σ:Store}
theorem RL.pc{b o:Nat}{xs:List AV}{vs:List Value}(hR:RL M xs vs)(hc:∀ k (h:k<vs.length),M b k=some vs[k]):R M (.pc (xs.drop o)) (.pointer (some ⟨b,o,none⟩)):=by
 refine .pc _ b o (fun k=>vs.getD (o+k) default) (fun k hk=> ?_) (fun k hk=> ?_)
 ·have hk':o+k<vs.length:=by rw[← hR.1];simp at hk;omega
  rw[hc _ hk',List.getD_eq_getElem?_getD,List.getElem?_eq_getElem hk'];rfl
 ·have hk1:o+k<xs.length:=by simp at hk;omega
  have hk':o+k<vs.length:=by rw[← hR.1];exact hk1
  rw[List.getElem_drop,List.getD_eq_getElem?_getD,List.getElem?_eq_getElem hk']
  exact hR.2 _ hk1 hk'
end
theorem SW.frz{P:Program}[Glob P]{N:Nat}{s:SC}{Q:Exit→Regs→Store→Prop}{rg rg':Regs}{σ σ':Store}{t b:Nat}{xs:List AV}(hs:FzS t b xs σ σ')(hr:FzR b xs rg rg')(h:SW P N s Q rg' σ'):SW P N s Q rg σ:=by
 intro c hc M w0 a w hI hR hN hD
 obtain⟨M',vs,hM,hI',hxs,hcell⟩:=(hI.perm hs.perm).freeze
 refine cwp_mono (h c hc M' w0 a w hI' (fun i=> ?_) hN hD) fun _ _ _ ⟨M2,rg2,σ2,h1,h2⟩=>⟨M2,rg2,σ2,hM.trans h1,h2⟩
 have h1:=(hR i).mono hM
 rcases hr.lk i with e|⟨t',o,e1,e2⟩
 ·rw[e];exact h1
 ·rw[e1]at h1
  rw[e2]
  have h2:=h1.of_lp
  rw[h2]
  exact RL.pc hxs hcell
theorem WK_frz{P:Program}[Glob P]{N:Nat}{cfg:Nat→Nat}{Q:Exit→Regs→Store→Prop}{a:AC}{k:List Fr}{rg rg':Regs}{σ σ':Store}(t b:Nat){xs:List AV}(hs:FzS t b xs σ σ')(hr:FzR b xs rg rg')(h:WK P N cfg Q a k rg' σ'):WK P N cfg Q a k rg σ:=⟨⟨rfl,SW.frz hs hr h.h.h⟩⟩
end Go.Sx
set_option maxRecDepth 100000
set_option maxHeartbeats 4000000
namespace Go.Proofs.YtekngilbecjkhaaGreatDoor
open Go.Sx Go.Proofs Go.Tb
def tyZ:Ty:=⟨0,[],s0⟩
abbrev tyA(t:Ty×Int):AV:= .tup [.agg t.1.cells,iv t.2]
abbrev scA(c:Cat)(ent:Str)(fld:AV):List AV:=[.sl false 4 (c.tables.map Tab.cells),.sl false 18 (c.features.map Fea.cells),.sl false 18 (c.drafts.map Fea.cells),.sl false 18 (c.past.map Fea.cells),sv ent,fld]
theorem fail_ok(e:Int):Pure Tryz.prog 57 [iv e] (tyA (tyZ,e)):=by
 refine Pure.runk (fun _=>0) Tryz.func57 comp57 era57 (Nat.le_of_ble_eq_true rfl) fun σ=> ?_
 repeat'(first|exact .nil|refine .k0 ?_|refine .k1 ?_|refine .k2 ?_|refine .k7 ?_|refine .r1 ?_ ?_|(refine .l1 ?_;intro b)|fail)
 all_goals(try simp only[BL]at *)
 exact Zw
def sameT(a b:Ty):Ty×Int:=if a.kind≠b.kind∨a.of≠b.of then(tyZ,5)else if a.unit≠b.unit then(tyZ,70)else(a,0)
theorem usame_ok(a b:List Fac):Pure Tryz.prog 96 [.sl false 2 (a.map Fac.cells),.sl false 2 (b.map Fac.cells)] (.v (.bool (decide (a=b)))):=by
 refine Pure.runk (fun _=>0) Tryz.func96 comp96 era96 (Nat.le_of_ble_eq_true rfl) fun σ=> ?_
 repeat'(first|exact .nil|refine .k0 ?_|refine .k1 ?_|refine .k2 ?_|refine .k7 ?_|refine .r1 ?_ ?_|refine .an rfl (by intro hob;exact equal_ok _ _) ?_ ?_|fail)
 all_goals(try simp only[BL]at *)
 exact Zw
theorem sameC_ok(x y:Ty):Pure Tryz.prog 66 [.agg x.cells,.agg y.cells] (tyA (sameT x y)):=by
 refine Pure.runk (fun _=>0) Tryz.func66 comp66 era66 (Nat.le_of_ble_eq_true rfl) fun σ=> ?_
 repeat'(first|exact .nil|refine .k0 ?_|refine .k1 ?_|refine .k2 ?_|refine .k4 ?_|refine .k7 ?_|refine .k9 ?_|(refine .cd ?_ ?_<;>(intro hc;skip))|refine .r1 ?_ ?_|(refine .l1 ?_;intro b)|(refine .m1 ?_ ?_;intro b)|refine .an rfl (by intro hob;first|exact usame_ok _ _|exact fail_ok _) ?_ ?_|fail)
 try any_goals(exact Zo)
 all_goals(try simp only[BL]at *)
 ·rw[show sameT x y=(tyZ,5)from if_pos (by simpa using hc)];exact Zw
 ·rw[show sameT x y=(tyZ,70)from(if_neg (by grind)).trans (if_pos hc)];exact Zw
 ·rw[show sameT x y=(x,0)from(if_neg (by grind)).trans (if_neg (by grind))];exact Zw
theorem nameIsC_ok(x:Fea)(n:Str):Pure Tryz.prog 166 [.agg x.cells,.pc [sv n]] (.v (.bool (decide (x.name=n)))):=by
 refine Pure.runk (fun _=>0) Tryz.func166 comp166 era166 (Nat.le_of_ble_eq_true rfl) fun σ=> ?_
 repeat'(first|exact .nil|refine .k0 ?_|refine .k1 ?_|refine .k2 ?_|refine .k7 ?_|refine .r1 ?_ ?_|(refine .m1 ?_ ?_;intro b)|fail)
 all_goals(try simp only[BL]at *)
 ·exact Sx.Fin.intro Zs rfl
theorem indexFeaC_ok(fs:List Fea)(n:Str):Pure Tryz.prog 80 [.sl false 18 (fs.map Fea.cells),.cl 166 [] [.pc [sv n]]] (iv (firstIdx (fun x=>decide (x.name=n)) fs 0)):=by
 refine Pure.runk (fun _=>0) Tryz.func80 comp80 era80 (Nat.le_of_ble_eq_true rfl) fun σ=> ?_
 repeat'(first|exact .nil|refine .k0 ?_|refine .k1 ?_|refine .k2 ?_|refine .k6 ?_|refine .r1 ?_ ?_|(refine .m2 ?_ ?_;intro hlen)|fail)
 all_goals(try simp only[BL]at *)
 refine WK_loop (fun m rg σ'=>∃ i:Nat,i≤fs.length∧m=fs.length-i∧(∀ j,j<i→¬(fs.getD j default).name=n)∧σ'=σ∧rg=[(0,.sl false 18 (fs.map Fea.cells)),(1,.cl 166 [] [.pc [sv n]]),(7,iv fs.length),(8,iv i)]) fs.length rfl ⟨_,_,Zr,Zs,0,Nat.zero_le _,rfl,fun j hj=>absurd hj (by omega),rfl,rfl⟩ ?_
 rintro m _ _ ⟨i,hi,hn,hp,rfl,rfl⟩
 repeat'(first|exact .nil|refine .k0 ?_|refine .k1 ?_|refine .k2 ?_|refine .k6 ?_|refine .k7 ?_|refine .k8 ?_|refine .k9 ?_|(refine .cd ?_ ?_<;>(intro hc;skip))|refine .r1 ?_ ?_|refine .t1 ?_ ?_ ?_|refine .an rfl (by intro hob;exact nameIsC_ok _ _) ?_ ?_|fail)
 try any_goals(exact Zo)
 all_goals(try simp only[BL]at *)
 ·rw[firstIdx_at (p:=fun x:Fea=>decide (x.name=n)) (l:=fs) (k:=0) (i:=i) (fun j hj=>decide_eq_false (hp j hj)) (by omega) (decide_eq_true hc),Nat.zero_add]
  exact Zw
 ·refine⟨fs.length-(i+1),by omega,_,_,Zr,Zs,i+1,by omega,rfl,cons_lt hp hc,rfl,by rw[up1 (n:=fs.length) (by omega) (by assumption)]⟩
 ·rw[firstIdx_no (fun y hy=>decide_eq_false (take_all (p:=fun y:Fea=>¬y.name=n) (fun j hj=>hp j (by omega)) y hy))]
  exact Zw
def namedT(fs:List Fea)(n ent:Str):Ty×Int:=match findF fs n with
 |none=>(tyZ,4)
 |some f=>if f.entity=ent then(f.type,0)else(tyZ,5)
theorem firstF{fs:List Fea}{n:Str}:(findF fs n=none∧firstIdx (fun x=>decide (x.name=n)) fs 0= -1)∨∃ i:Nat,i<fs.length∧firstIdx (fun x=>decide (x.name=n)) fs 0=(i:Int)∧findF fs n=some (fs.getD i default):=by
 rcases firstIdx_find (fun x=>decide (x.name=n)) fs 0 with h|⟨i,h1,h2,h3⟩
 ·exact .inl h
 ·exact .inr ⟨i,h1,by rw[h2,Nat.zero_add],h3⟩
theorem named_ok(c:Cat)(e0 n ent:Str):Pure Tryz.prog 147 [.agg (scA c e0 (.v .nilFunc)),sv n,sv ent] (tyA (namedT c.features n ent)):=by
 have hi:=indexFeaC_ok c.features n
 unfold namedT
 rcases firstF (fs:=c.features) (n:=n)with⟨h1,h2⟩|⟨i,h0,h2,h1⟩
 all_goals
  rw[h2]at hi
  rw[h1]
  refine Pure.runk (fun _=>0) Tryz.func147 comp147 era147 (Nat.le_of_ble_eq_true rfl) fun σ=> ?_
  refine .k1 ?_
  refine .k2 ?_
  repeat'((fail_if_success (show WK _ _ _ _ _ _ _ _));(first|exact .nil|refine .k0 ?_|refine .k1 ?_|refine .r1 ?_ ?_|(refine .l1 ?_;intro b)|(refine .m1 ?_ ?_;intro b)|fail))
  refine .k0 ?_
  rename_i b3 b4
  refine WK_frz 4 b4 (.there .here) (.same (.same (.p0 (.same .nil)))) ?_
  repeat'(first|exact .nil|refine .k0 ?_|refine .k1 ?_|refine .k2 ?_|refine .k6 ?_|refine .k7 ?_|refine .k9 ?_|(refine .cd ?_ ?_<;>(intro hc;skip))|refine .r1 ?_ ?_|refine .t1 ?_ ?_ ?_|refine .an rfl (by intro hob;first|exact hi|exact fail_ok _) ?_ ?_|fail)
  try any_goals(exact Zo)
  all_goals(try simp only[BL]at *)
  all_goals try(show(0:Int)≤_∧_;omega)
 ·exact Zw
 ·exfalso;omega
 ·exfalso;omega
 ·exfalso;omega
 ·rw[if_neg hc];exact Zw
 ·rw[if_pos hc];exact Zw
abbrev tysA(l:List Ty):AV:= .sl false 3 (l.map Ty.cells)
def fldA:Option Tab→AV
 |none=> .v .nilFunc
 |some t=> .cl 87 [] [.pc t.cells]
theorem literalT_ok(c:Cat)(e0:Str)(tb:Option Tab)(x:Ex)(l:List Ty):Pure Tryz.prog 112 [.agg (scA c e0 (fldA tb)),.agg x.row,tysA l] (tyA (⟨x.val.kind,x.unit,x.name⟩,0)):=by
 cases tb
 all_goals
  refine Pure.runk (fun _=>0) Tryz.func112 comp112 era112 (Nat.le_of_ble_eq_true rfl) fun σ=> ?_
  repeat'(first|exact .nil|refine .k0 ?_|refine .k1 ?_|refine .k2 ?_|refine .k7 ?_|refine .r1 ?_ ?_|(refine .l1 ?_;intro b)|(refine .m1 ?_ ?_;intro b)|fail)
  all_goals(try simp only[BL]at *)
  all_goals exact Zw
theorem featureT_ok(c:Cat)(e0:Str)(x:Ex)(l:List Ty):Pure Tryz.prog 114 [.agg (scA c e0 (.v .nilFunc)),.agg x.row,tysA l] (tyA (namedT c.features x.name e0)):=by
 have hn:=named_ok c e0 x.name e0
 generalize namedT c.features x.name e0=r at *
 refine Pure.runk (fun _=>0) Tryz.func114 comp114 era114 (Nat.le_of_ble_eq_true rfl) fun σ=> ?_
 repeat'(first|exact .nil|refine .k0 ?_|refine .k1 ?_|refine .k2 ?_|refine .k7 ?_|refine .r1 ?_ ?_|(refine .l1 ?_;intro b)|(refine .m1 ?_ ?_;intro b)|refine .an rfl (by intro hob;first|exact hn|fail) ?_ ?_|fail)
 all_goals(try simp only[BL]at *)
 exact Zw
theorem lookupT_ok(c:Cat)(e0:Str)(x:Ex)(l:List Ty)(hl:0<l.length):Pure Tryz.prog 115 [.agg (scA c e0 (.v .nilFunc)),.agg x.row,tysA l] (tyA (if(l.getD 0 default).kind=5 then namedT c.features x.name (l.getD 0 default).of else(tyZ,5))):=by
 have hn:=named_ok c e0 x.name (l.getD 0 default).of
 generalize namedT c.features x.name (l.getD 0 default).of=r at *
 refine Pure.runk (fun _=>0) Tryz.func115 comp115 era115 (Nat.le_of_ble_eq_true rfl) fun σ=> ?_
 repeat'(first|exact .nil|refine .k0 ?_|refine .k1 ?_|refine .k2 ?_|refine .k3 ?_|refine .k7 ?_|refine .k9 ?_|(refine .cd ?_ ?_<;>(intro hc;skip))|refine .r1 ?_ ?_|(refine .l1 ?_;intro b)|(refine .m1 ?_ ?_;intro b)|refine .t1 ?_ ?_ ?_|refine .an rfl (by intro hob;first|exact hn|exact fail_ok _|fail) ?_ ?_|fail)
 try any_goals(exact Zo)
 all_goals(try simp only[BL]at *)
 all_goals try(show(0:Int)≤_∧_;omega)
 all_goals first|(rw[if_neg hc];(refine Sx.Fin.wk Zs ?_;repeat' first|exact .refl _|fail);done)|(rw[if_pos hc];(refine Sx.Fin.wk Zs ?_;repeat' first|exact .refl _|fail);done)
theorem choiceT_ok(c:Cat)(e0:Str)(tb:Option Tab)(x:Ex)(l:List Ty)(hl:l.length=3):Pure Tryz.prog 119 [.agg (scA c e0 (fldA tb)),.agg x.row,tysA l] (tyA (if(l.getD 0 default).kind=1 then sameT (l.getD 1 default) (l.getD 2 default)else(tyZ,5))):=by
 cases tb
 all_goals
  refine Pure.runk (fun _=>0) Tryz.func119 comp119 era119 (Nat.le_of_ble_eq_true rfl) fun σ=> ?_
  repeat'(first|exact .nil|refine .k0 ?_|refine .k1 ?_|refine .k2 ?_|refine .k3 ?_|refine .k7 ?_|refine .k9 ?_|(refine .cd ?_ ?_<;>(intro hc;skip))|refine .r1 ?_ ?_|(refine .l1 ?_;intro b)|(refine .m1 ?_ ?_;intro b)|refine .t1 ?_ ?_ ?_|refine .an rfl (by intro hob;first|exact fail_ok _|exact sameC_ok _ _|fail) ?_ ?_|fail)
  try any_goals(exact Zo)
  all_goals(try simp only[BL]at *)
  all_goals try(show(0:Int)≤_∧_;omega)
  all_goals first|(rw[if_neg hc];(refine Sx.Fin.wk Zs ?_;repeat' first|exact .refl _|fail);done)|(rw[if_pos hc];(refine Sx.Fin.wk Zs ?_;repeat' first|exact .refl _|fail);done)
theorem fallbackT_ok(c:Cat)(e0:Str)(tb:Option Tab)(x:Ex)(l:List Ty)(hl:l.length=2):Pure Tryz.prog 120 [.agg (scA c e0 (fldA tb)),.agg x.row,tysA l] (tyA (sameT (l.getD 0 default) (l.getD 1 default))):=by
 cases tb
 all_goals
  refine Pure.runk (fun _=>0) Tryz.func120 comp120 era120 (Nat.le_of_ble_eq_true rfl) fun σ=> ?_
  repeat'(first|exact .nil|refine .k0 ?_|refine .k1 ?_|refine .k2 ?_|refine .k3 ?_|refine .k7 ?_|refine .r1 ?_ ?_|(refine .l1 ?_;intro b)|(refine .m1 ?_ ?_;intro b)|refine .t1 ?_ ?_ ?_|refine .an rfl (by intro hob;first|exact sameC_ok _ _|fail) ?_ ?_|fail)
  try any_goals(exact Zo)
  all_goals(try simp only[BL]at *)
  all_goals try(show(0:Int)≤_∧_;omega)
  all_goals exact Zw
def opIs(o:Str)(l:List Str):Prop:=o∈l
instance (o:Str)(l:List Str):Decidable (opIs o l):=inferInstanceAs (Decidable (o∈l))
def tyAgg(o:Str)(a b:Ty):Ty×Int:=
 if b.kind≠1 then(tyZ,5)else if o=(⟨#[99,111,117,110,116]⟩:Str)∨o=(⟨#[100,105,115,116,105,110,99,116]⟩:Str)then(⟨2,[],s0⟩,0)else if o=(⟨#[102,105,114,115,116]⟩:Str)∨o=(⟨#[108,97,115,116]⟩:Str)then(a,0)else if(o=(⟨#[109,105,110]⟩:Str)∨o=(⟨#[109,97,120]⟩:Str))∧a.kind=4 then(a,0)
 else if¬Num a then(tyZ,5)else if o=(⟨#[109,101,97,110]⟩:Str)∨o=(⟨#[100,101,99,97,121]⟩:Str)then(⟨3,a.unit,s0⟩,0)else(a,0)
def tyUn(o:Str)(a:Ty):Ty×Int:=
 if o=(⟨#[45]⟩:Str)∧Num a then(a,0)else if o=(⟨#[110,117,108,108]⟩:Str)∨(o=(⟨#[110,111,116]⟩:Str)∧a.kind=1)then(⟨1,[],s0⟩,0)else(tyZ,5)
theorem aggregateT_ok(c:Cat)(e0:Str)(x:Ex)(l:List Ty)(hl:l.length=2):Pure Tryz.prog 116 [.agg (scA c e0 (.v .nilFunc)),.agg x.row,tysA l] (tyA (tyAgg x.op (l.getD 0 default) (l.getD 1 default))):=by
 refine Pure.runk (fun _=>0) Tryz.func116 comp116 era116 (Nat.le_of_ble_eq_true rfl) fun σ=> ?_
 repeat'(first|exact .nil|refine .k0 ?_|refine .k1 ?_|refine .k2 ?_|refine .k4 ?_|refine .k6 ?_|refine .k7 ?_|refine .k9 ?_|(refine .cd ?_ ?_<;>(intro hc;first|exact kf hc (by assumption)|skip))|refine .r1 ?_ ?_|(refine .l1 ?_;intro b)|(refine .m1 ?_ ?_;intro b)|refine .t1 ?_ ?_ ?_|refine .an rfl (by intro hob;first|exact fail_ok _|exact isNumber_ok _) ?_ ?_|fail)
 try any_goals(exact Zo)
 all_goals(try simp only[BL]at *)
 all_goals try(show(0:Int)≤_∧_;omega)
 all_goals clear hl
 all_goals generalize l.getD 0 default=A at *
 all_goals generalize l.getD 1 default=B at *
 all_goals first
  |(rw[show tyAgg x.op A B=(tyZ,5)from by unfold tyAgg;grind];(refine Sx.Fin.wk Zs ?_;repeat' first|exact .refl _|refine .cons ?_ ?_|refine .tup ?_|refine .agg ?_|fail);done)
  |(rw[show tyAgg x.op A B=(A,0)from by unfold tyAgg;grind];(refine Sx.Fin.wk Zs ?_;repeat' first|exact .refl _|refine .cons ?_ ?_|refine .tup ?_|refine .agg ?_|fail);done)
  |(rw[show tyAgg x.op A B=(⟨2,[],s0⟩,0)from by unfold tyAgg;grind];(refine Sx.Fin.wk Zs ?_;repeat' first|exact .refl _|exact .nil|refine .cons ?_ ?_|refine .tup ?_|refine .agg ?_|fail);done)
  |(rw[show tyAgg x.op A B=(⟨3,A.unit,s0⟩,0)from by unfold tyAgg;grind];(refine Sx.Fin.wk Zs ?_;repeat' first|exact .refl _|fail);done)
theorem unaryT_ok(c:Cat)(e0:Str)(tb:Option Tab)(x:Ex)(l:List Ty)(hl:l.length=1):Pure Tryz.prog 117 [.agg (scA c e0 (fldA tb)),.agg x.row,tysA l] (tyA (tyUn x.op (l.getD 0 default))):=by
 cases tb
 all_goals
  refine Pure.runk (fun _=>0) Tryz.func117 comp117 era117 (Nat.le_of_ble_eq_true rfl) fun σ=> ?_
  repeat'(first|exact .nil|refine .k0 ?_|refine .k1 ?_|refine .k2 ?_|refine .k3 ?_|refine .k4 ?_|refine .k6 ?_|refine .k7 ?_|refine .k9 ?_|(refine .cd ?_ ?_<;>(intro hc;first|exact kf hc (by assumption)|skip))|refine .r1 ?_ ?_|(refine .l1 ?_;intro b)|(refine .m1 ?_ ?_;intro b)|refine .t1 ?_ ?_ ?_|refine .an rfl (by intro hob;first|exact fail_ok _|exact isNumber_ok _) ?_ ?_|fail)
  try any_goals(exact Zo)
  all_goals(try simp only[BL]at *)
  all_goals try(show(0:Int)≤_∧_;omega)
  all_goals clear hl
  all_goals generalize l.getD 0 default=A at *
  all_goals first
   |(rw[show tyUn x.op A=(tyZ,5)from by unfold tyUn;grind];(refine Sx.Fin.wk Zs ?_;repeat' first|exact .refl _|fail);done)
   |(rw[show tyUn x.op A=(A,0)from by unfold tyUn;grind];(refine Sx.Fin.wk Zs ?_;repeat' first|exact .refl _|fail);done)
   |(rw[show tyUn x.op A=(⟨1,[],s0⟩,0)from by unfold tyUn;grind];(refine Sx.Fin.wk Zs ?_;repeat' first|exact .refl _|exact .nil|refine .cons ?_ ?_|refine .tup ?_|refine .agg ?_|fail);done)
set_option maxHeartbeats 8000000
theorem firstIdx_some{α:Type}[Inhabited α](p:α→Bool):∀ (l:List α) (k:Nat),(l.find? p=none∧firstIdx p l k= -1)∨∃ i:Nat,i<l.length∧firstIdx p l k=((k+i:Nat):Int)∧l.find? p=some (l.getD i default)
 |[],k=> .inl ⟨rfl,rfl⟩
 |x::l,k=>by
  unfold firstIdx
  by_cases h:p x=true
  ·exact .inr ⟨0,by simp,by simp[h],by simp[h]⟩
  ·rcases firstIdx_some p l (k+1)with⟨h1,h2⟩|⟨i,h1,h2,h3⟩
   ·exact .inl ⟨by simp[h,h1],by simp[h,h2]⟩
   ·exact .inr ⟨i+1,by simpa using h1,by rw[if_neg h,h2];omega,by simp[h,h3]⟩
def findFl(fs:List Fld)(n:Str):Option Fld:=fs.find? fun f=>decide (f.name=n)
theorem fldIs_ok(x:Fld)(n:Str):Pure Tryz.prog 89 [.agg x.cells,.pc [sv n]] (.v (.bool (decide (x.name=n)))):=by
 refine Pure.runk (fun _=>0) Tryz.func89 comp89 era89 (Nat.le_of_ble_eq_true rfl) fun σ=> ?_
 repeat'(first|exact .nil|refine .k0 ?_|refine .k1 ?_|refine .k2 ?_|refine .k7 ?_|refine .r1 ?_ ?_|(refine .m1 ?_ ?_;intro b)|fail)
 all_goals(try simp only[BL]at *)
 ·exact Sx.Fin.intro Zs rfl
theorem indexFl_ok(fs:List Fld)(n:Str):Pure Tryz.prog 88 [.sl false 4 (fs.map Fld.cells),.cl 89 [] [.pc [sv n]]] (iv (firstIdx (fun x=>decide (x.name=n)) fs 0)):=by
 refine Pure.runk (fun _=>0) Tryz.func88 comp88 era88 (Nat.le_of_ble_eq_true rfl) fun σ=> ?_
 repeat'(first|exact .nil|refine .k0 ?_|refine .k1 ?_|refine .k2 ?_|refine .k6 ?_|refine .r1 ?_ ?_|(refine .m2 ?_ ?_;intro hlen)|fail)
 all_goals(try simp only[BL]at *)
 refine WK_loop (fun m rg σ'=>∃ i:Nat,i≤fs.length∧m=fs.length-i∧(∀ j,j<i→¬(fs.getD j default).name=n)∧σ'=σ∧rg=[(0,.sl false 4 (fs.map Fld.cells)),(1,.cl 89 [] [.pc [sv n]]),(7,iv fs.length),(8,iv i)]) fs.length rfl ⟨_,_,Zr,Zs,0,Nat.zero_le _,rfl,fun j hj=>absurd hj (by omega),rfl,rfl⟩ ?_
 rintro m _ _ ⟨i,hi,hn,hp,rfl,rfl⟩
 repeat'(first|exact .nil|refine .k0 ?_|refine .k1 ?_|refine .k2 ?_|refine .k6 ?_|refine .k7 ?_|refine .k8 ?_|refine .k9 ?_|(refine .cd ?_ ?_<;>(intro hc;skip))|refine .r1 ?_ ?_|refine .t1 ?_ ?_ ?_|refine .an rfl (by intro hob;exact fldIs_ok _ _) ?_ ?_|fail)
 try any_goals(exact Zo)
 all_goals(try simp only[BL]at *)
 ·rw[firstIdx_at (p:=fun x:Fld=>decide (x.name=n)) (l:=fs) (k:=0) (i:=i) (fun j hj=>decide_eq_false (hp j hj)) (by omega) (decide_eq_true hc),Nat.zero_add]
  exact Zw
 ·refine⟨fs.length-(i+1),by omega,_,_,Zr,Zs,i+1,by omega,rfl,cons_lt hp hc,rfl,by rw[up1 (n:=fs.length) (by omega) (by assumption)]⟩
 ·rw[firstIdx_no (fun y hy=>decide_eq_false (take_all (p:=fun y:Fld=>¬y.name=n) (fun j hj=>hp j (by omega)) y hy))]
  exact Zw
def fldT(fs:List Fld)(n:Str):Ty×Int:=match findFl fs n with
 |none=>(tyZ,4)
 |some f=>(f.type,0)
theorem firstFl{fs:List Fld}{n:Str}:(findFl fs n=none∧firstIdx (fun x=>decide (x.name=n)) fs 0= -1)∨∃ i:Nat,i<fs.length∧firstIdx (fun x=>decide (x.name=n)) fs 0=(i:Int)∧findFl fs n=some (fs.getD i default):=by
 rcases firstIdx_some (fun x:Fld=>decide (x.name=n)) fs 0 with h|⟨i,h1,h2,h3⟩
 ·exact .inl h
 ·exact .inr ⟨i,h1,by rw[h2,Nat.zero_add],h3⟩
theorem fieldC_ok(t:Tab)(n:Str):Pure Tryz.prog 87 [sv n,.pc t.cells] (tyA (fldT t.fields n)):=by
 have hi:=indexFl_ok t.fields n
 unfold fldT
 rcases firstFl (fs:=t.fields) (n:=n)with⟨h1,h2⟩|⟨i,h0,h2,h1⟩
 all_goals
  rw[h2]at hi
  rw[h1]
  refine Pure.runk (fun _=>0) Tryz.func87 comp87 era87 (Nat.le_of_ble_eq_true rfl) fun σ=> ?_
  refine .k1 ?_
  refine .k2 ?_
  repeat'((fail_if_success (show WK _ _ _ _ _ _ _ _));(first|exact .nil|refine .k0 ?_|refine .k1 ?_|refine .r1 ?_ ?_|(refine .l1 ?_;intro b)|(refine .m1 ?_ ?_;intro b)|fail))
  refine .k0 ?_
  rename_i b2
  refine WK_frz 2 b2 (.there .here) (.same (.p0 (.same .nil))) ?_
  repeat'(first|exact .nil|refine .k0 ?_|refine .k1 ?_|refine .k2 ?_|refine .k7 ?_|refine .k9 ?_|(refine .cd ?_ ?_<;>(intro hc;skip))|refine .r1 ?_ ?_|refine .t1 ?_ ?_ ?_|refine .an rfl (by intro hob;first|exact hi|exact fail_ok _) ?_ ?_|fail)
  try any_goals(exact Zo)
  all_goals(try simp only[BL]at *)
  all_goals try(show(0:Int)≤_∧_;omega)
  all_goals first|(exfalso;omega)|(refine Sx.Fin.wk Zs ?_;repeat' first|exact .refl _|fail)
theorem fieldOfT_ok(c:Cat)(e0:Str)(t:Tab)(x:Ex)(l:List Ty):Pure Tryz.prog 113 [.agg (scA c e0 (fldA (some t))),.agg x.row,tysA l] (tyA (fldT t.fields x.name)):=by
 refine Pure.runk (fun _=>0) Tryz.func113 comp113 era113 (Nat.le_of_ble_eq_true rfl) fun σ=> ?_
 repeat'(first|exact .nil|refine .k0 ?_|refine .k1 ?_|refine .k2 ?_|refine .k7 ?_|refine .r1 ?_ ?_|(refine .l1 ?_;intro b)|(refine .m1 ?_ ?_;intro b)|refine .an rfl (by intro hob;exact fieldC_ok _ _) ?_ ?_|fail)
 all_goals(try simp only[BL]at *)
 exact Zw
theorem tabIs_ok(t:Tab)(x:Ex):Pure Tryz.prog 86 [.agg t.cells,.pc x.row] (.v (.bool (decide (t.name=x.table)))):=by
 refine Pure.runk (fun _=>0) Tryz.func86 comp86 era86 (Nat.le_of_ble_eq_true rfl) fun σ=> ?_
 repeat'(first|exact .nil|refine .k0 ?_|refine .k1 ?_|refine .k2 ?_|refine .k7 ?_|refine .r1 ?_ ?_|(refine .m1 ?_ ?_;intro b)|fail)
 all_goals(try simp only[BL]at *)
 ·exact Sx.Fin.intro Zs rfl
theorem indexTb_ok(fs:List Tab)(x:Ex):Pure Tryz.prog 85 [.sl false 4 (fs.map Tab.cells),.cl 86 [] [.pc x.row]] (iv (firstIdx (fun t=>decide (t.name=x.table)) fs 0)):=by
 refine Pure.runk (fun _=>0) Tryz.func85 comp85 era85 (Nat.le_of_ble_eq_true rfl) fun σ=> ?_
 repeat'(first|exact .nil|refine .k0 ?_|refine .k1 ?_|refine .k2 ?_|refine .k6 ?_|refine .r1 ?_ ?_|(refine .m2 ?_ ?_;intro hlen)|fail)
 all_goals(try simp only[BL]at *)
 refine WK_loop (fun m rg σ'=>∃ i:Nat,i≤fs.length∧m=fs.length-i∧(∀ j,j<i→¬(fs.getD j default).name=x.table)∧σ'=σ∧rg=[(0,.sl false 4 (fs.map Tab.cells)),(1,.cl 86 [] [.pc x.row]),(7,iv fs.length),(8,iv i)]) fs.length rfl ⟨_,_,Zr,Zs,0,Nat.zero_le _,rfl,fun j hj=>absurd hj (by omega),rfl,rfl⟩ ?_
 rintro m _ _ ⟨i,hi,hn,hp,rfl,rfl⟩
 repeat'(first|exact .nil|refine .k0 ?_|refine .k1 ?_|refine .k2 ?_|refine .k6 ?_|refine .k7 ?_|refine .k8 ?_|refine .k9 ?_|(refine .cd ?_ ?_<;>(intro hc;skip))|refine .r1 ?_ ?_|refine .t1 ?_ ?_ ?_|refine .an rfl (by intro hob;exact tabIs_ok _ _) ?_ ?_|fail)
 try any_goals(exact Zo)
 all_goals(try simp only[BL]at *)
 ·rw[firstIdx_at (p:=fun t:Tab=>decide (t.name=x.table)) (l:=fs) (k:=0) (i:=i) (fun j hj=>decide_eq_false (hp j hj)) (by omega) (decide_eq_true hc),Nat.zero_add]
  exact Zw
 ·refine⟨fs.length-(i+1),by omega,_,_,Zr,Zs,i+1,by omega,rfl,cons_lt hp hc,rfl,by rw[up1 (n:=fs.length) (by omega) (by assumption)]⟩
 ·rw[firstIdx_no (fun y hy=>decide_eq_false (take_all (p:=fun y:Tab=>¬y.name=x.table) (fun j hj=>hp j (by omega)) y hy))]
  exact Zw
theorem firstTb{fs:List Tab}{n:Str}:(findT fs n=none∧firstIdx (fun x=>decide (x.name=n)) fs 0= -1)∨∃ i:Nat,i<fs.length∧firstIdx (fun x=>decide (x.name=n)) fs 0=(i:Int)∧findT fs n=some (fs.getD i default):=by
 rcases firstIdx_some (fun x:Tab=>decide (x.name=n)) fs 0 with h|⟨i,h1,h2,h3⟩
 ·exact .inl h
 ·exact .inr ⟨i,h1,by rw[h2,Nat.zero_add],h3⟩
def ruleF(k:Int):FuncId:=if k=1 then 112 else if k=2 then 113 else if k=3 then 114 else if k=4 then 115 else if k=5 then 116 else if k=6 then 117 else if k=7 then 118 else if k=8 then 119 else 120
theorem rule_ok(c:Cat)(e0:Str)(tb:Option Tab)(k:Int)(hk:1≤k∧k≤9):Pure Tryz.prog 90 [.agg (scA c e0 (fldA tb)),iv k] (.cl (ruleF k) [.agg (scA c e0 (fldA tb))] []):=by
 have h:k=1∨k=2∨k=3∨k=4∨k=5∨k=6∨k=7∨k=8∨k=9:=by omega
 cases tb<;>rcases h with rfl|rfl|rfl|rfl|rfl|rfl|rfl|rfl|rfl
 all_goals
  refine Pure.runk (fun _=>0) Tryz.func90 comp90 era90 (Nat.le_of_ble_eq_true rfl) fun σ=> ?_
  repeat'(first|exact .nil|refine .k0 ?_|refine .k1 ?_|refine .k2 ?_|refine .k7 ?_|refine .r1 ?_ ?_|(refine .m1 ?_ ?_;intro b)|(refine .l3 ?_;intro b)|refine .r6 ?_ ?_|refine .r7 ?_ ?_|fail)
  all_goals(try simp only[BL]at *)
  all_goals exact Sx.Fin.intro Zs rfl
set_option maxHeartbeats 16000000
def expU(l:List Fac)(n:Str):Int:=((l.filter fun f=>decide (f.name=n)).map Fac.exp).sum
def normU(l:List Fac):List Fac×Int:=
 let ns:=sortL (l.map Fac.name)
 if∃ n∈ns,expU l n>8∨expU l n< -8 then([],70)else
 let u:=(ns.map fun n=>(⟨n,expU l n⟩:Fac)).filter fun f=>decide (f.exp≠0)
 if u.length>4 then([],2)else(u,0)
def prodU(a b:List Fac)(sg:Int):List Fac×Int:=
 if unitErr a≠0 then([],unitErr a)else if unitErr b≠0 then([],unitErr b)else normU (a++b.map fun f=>(⟨f.name,sg * f.exp⟩:Fac))
abbrev unA(u:List Fac×Int):AV:= .tup [.sl false 2 (u.1.map Fac.cells),iv u.2]
def TimesC:Prop:=∀ a b:List Fac,Sx.Pure Tryz.prog 148 [.sl false 2 (a.map Fac.cells),.sl false 2 (b.map Fac.cells)] (unA (prodU a b 1))
def OverC:Prop:=∀ a b:List Fac,Sx.Pure Tryz.prog 149 [.sl false 2 (a.map Fac.cells),.sl false 2 (b.map Fac.cells)] (unA (prodU a b (-1)))
def oAnd:Str:=(⟨#[97,110,100]⟩:Str)
def oOr:Str:=(⟨#[111,114]⟩:Str)
def oEq:Str:=(⟨#[61,61]⟩:Str)
def oNe:Str:=(⟨#[33,61]⟩:Str)
def oLt:Str:=(⟨#[60]⟩:Str)
def oLe:Str:=(⟨#[60,61]⟩:Str)
def oMul:Str:=(⟨#[42]⟩:Str)
def oDiv:Str:=(⟨#[47]⟩:Str)
def oAdd:Str:=(⟨#[43]⟩:Str)
def oSub:Str:=(⟨#[45]⟩:Str)
def truT:Ty:=⟨1,[],s0⟩
def tyBin(o:Str)(a b:Ty):Ty×Int:=
 if o=oAnd∨o=oOr then(if a.kind=1∧b.kind=1 then(truT,0)else(tyZ,5))
 else if o=oEq∨o=oNe∨o=oLt∨o=oLe then
  (if Num a∧Num b∧a.unit≠b.unit then(tyZ,70)
   else if(Num a∧Num b)∨(if o=oLt∨o=oLe then a.kind=4∧b.kind=4 else a.kind=b.kind∧a.of=b.of∧a.unit=b.unit)then(truT,0)else(tyZ,5))
 else if¬(Num a∧Num b)then(tyZ,5)
 else if o=oMul then(if(prodU a.unit b.unit 1).2≠0 then(tyZ,70)else(⟨max a.kind b.kind,(prodU a.unit b.unit 1).1,s0⟩,0))
 else if o=oDiv then(if(prodU a.unit b.unit (-1)).2≠0 then(tyZ,70)else(⟨3,(prodU a.unit b.unit (-1)).1,s0⟩,0))
 else if(o=oAdd∨o=oSub)∧a.unit≠b.unit then(tyZ,70)else(⟨max a.kind b.kind,a.unit,s0⟩,0)
theorem kmax(a b:Int):(if b>a then b else a)=max a b:=by rw[Int.max_def];split<;>split<;>omega
theorem binaryT_ok(hT:TimesC)(hO:OverC)(c:Cat)(e0:Str)(tb:Option Tab)(x:Ex)(l:List Ty)(hl:l.length=2):Pure Tryz.prog 118 [.agg (scA c e0 (fldA tb)),.agg x.row,tysA l] (tyA (tyBin x.op (l.getD 0 default) (l.getD 1 default))):=by
 unfold TimesC at hT
 unfold OverC at hO
 cases tb
 all_goals
  refine Pure.runk (fun _=>0) Tryz.func118 comp118 era118 (Nat.le_of_ble_eq_true rfl) fun σ=> ?_
  repeat'(first|exact .nil|refine .k0 ?_|refine .k1 ?_|refine .k2 ?_|refine .k3 ?_|refine .k4 ?_|refine .k6 ?_|refine .k7 ?_|refine .k9 ?_|(refine .cd ?_ ?_<;>(intro hc;first|exact kf hc (by assumption)|skip))|refine .r1 ?_ ?_|(refine .l1 ?_;intro b)|(refine .m1 ?_ ?_;intro b)|refine .t1 ?_ ?_ ?_|refine .an rfl (by intro hob;first|exact isNumber_ok _|exact usame_ok _ _|exact fail_ok _|exact hT _ _|exact hO _ _) ?_ ?_|fail)
  try any_goals(exact Zo)
  all_goals(try simp only[BL]at *)
  all_goals try(show(0:Int)≤_∧_;omega)
  all_goals clear hl hT hO
  all_goals generalize l.getD 0 default=A at *
  all_goals generalize l.getD 1 default=B at *
  all_goals try simp only[Bool.false_eq_true,if_false,kmax]
  all_goals first
   |(rw[show tyBin x.op A B=(tyZ,5)from by unfold tyBin oAnd oOr oEq oNe oLt oLe oMul oDiv oAdd oSub;grind];(refine Sx.Fin.wk Zs ?_;repeat' first|exact .refl _|exact .nil|refine .cons ?_ ?_|refine .tup ?_|refine .agg ?_|fail);done)
   |(rw[show tyBin x.op A B=(truT,0)from by unfold tyBin oAnd oOr oEq oNe oLt oLe oMul oDiv oAdd oSub;grind];(refine Sx.Fin.wk Zs ?_;repeat' first|exact .refl _|exact .nil|refine .cons ?_ ?_|refine .tup ?_|refine .agg ?_|fail);done)
   |(rw[show tyBin x.op A B=(tyZ,70)from by unfold tyBin oAnd oOr oEq oNe oLt oLe oMul oDiv oAdd oSub;grind];(refine Sx.Fin.wk Zs ?_;repeat' first|exact .refl _|fail);done)
   |(rw[show tyBin x.op A B=(⟨max A.kind B.kind,A.unit,s0⟩,0)from by unfold tyBin oAnd oOr oEq oNe oLt oLe oMul oDiv oAdd oSub;grind];(refine Sx.Fin.wk Zs ?_;repeat' first|exact .refl _|fail);done)
   |(rw[show tyBin x.op A B=(⟨max A.kind B.kind,(prodU A.unit B.unit 1).1,s0⟩,0)from by unfold tyBin oAnd oOr oEq oNe oLt oLe oMul oDiv oAdd oSub;grind];(refine Sx.Fin.wk Zs ?_;repeat' first|exact .refl _|fail);done)
   |(rw[show tyBin x.op A B=(⟨3,(prodU A.unit B.unit (-1)).1,s0⟩,0)from by unfold tyBin oAnd oOr oEq oNe oLt oLe oMul oDiv oAdd oSub;grind];(refine Sx.Fin.wk Zs ?_;repeat' first|exact .refl _|fail);done)
   |trace_state
def opT(c:Cat)(e0:Str)(tb:Option Tab)(x:Ex)(l:List Ty):Ty×Int:=
 if x.kind=1 then(⟨x.val.kind,x.unit,x.name⟩,0)
 else if x.kind=2 then(match tb with|some t=>fldT t.fields x.name|none=>(tyZ,0))
 else if x.kind=3 then namedT c.features x.name e0
 else if x.kind=4 then(if(l.getD 0 default).kind=5 then namedT c.features x.name (l.getD 0 default).of else(tyZ,5))
 else if x.kind=5 then tyAgg x.op (l.getD 0 default) (l.getD 1 default)
 else if x.kind=6 then tyUn x.op (l.getD 0 default)
 else if x.kind=7 then tyBin x.op (l.getD 0 default) (l.getD 1 default)
 else if x.kind=8 then(if(l.getD 0 default).kind=1 then sameT (l.getD 1 default) (l.getD 2 default)else(tyZ,5))
 else sameT (l.getD 0 default) (l.getD 1 default)
def inT(c:Cat)(e0:Str)(tb:Option Tab)(x:Ex):Option Tab×Int:=
 if x.kind=5 then(match findT c.tables x.table with
  |none=>(none,4)
  |some t=>if t.entity=e0 then(some t,0)else(none,5))else(tb,0)
def finT(c:Cat)(e0:Str)(tb:Option Tab)(x:Ex)(q:Int)(s:List Ty×Int):Ty×Int:=if q≠0 then(tyZ,q)else if s.2≠0 then(tyZ,s.2)else opT c e0 tb x s.1
mutual
def inf(c:Cat)(e0:Str):Ex→Option Tab→Ty×Int
 | .mk k o n t v u p w ks,tb=>finT c e0 tb (.mk k o n t v u p w ks) (inT c e0 tb (.mk k o n t v u p w ks)).2 (infL c e0 ks (inT c e0 tb (.mk k o n t v u p w ks)).1)
def infL(c:Cat)(e0:Str):List Ex→Option Tab→List Ty×Int
 |[],_=>([],0)
 |x::l,tb=>if(inf c e0 x tb).2≠0 then([],(inf c e0 x tb).2)else((inf c e0 x tb).1::(infL c e0 l tb).1,(infL c e0 l tb).2)
end
theorem inf_eq(c:Cat)(e0:Str)(x:Ex)(tb:Option Tab):inf c e0 x tb=finT c e0 tb x (inT c e0 tb x).2 (infL c e0 x.args (inT c e0 tb x).1):=by
 cases x;rw[inf];rfl
theorem infL_drop(c:Cat)(e0:Str){l:List Ex}{i:Nat}(hi:i<l.length)(tb:Option Tab):infL c e0 (l.drop i) tb=if(inf c e0 (l.getD i default) tb).2≠0 then([],(inf c e0 (l.getD i default) tb).2)else((inf c e0 (l.getD i default) tb).1::(infL c e0 (l.drop (i+1)) tb).1,(infL c e0 (l.drop (i+1)) tb).2):=by
 have e:l.drop i=l.getD i default::l.drop (i+1):=by rw[getD_eq hi,List.getElem_cons_drop]
 rw[e,infL]
theorem form_kind{ins:Bool}{x:Ex}(h:form ins x=true):(x.kind=1∧x.args.length=0)∨(x.kind=2∧ins=true∧x.args.length=0)∨(x.kind=3∧ins=false∧x.args.length=0)∨(x.kind=4∧ins=false∧x.args.length=1)∨(x.kind=5∧ins=false∧x.args.length=2)∨(x.kind=6∧x.args.length=1)∨(x.kind=7∧x.args.length=2)∨(x.kind=8∧x.args.length=3)∨(x.kind=9∧x.args.length=2):=by
 obtain⟨h1,h2,_⟩:=(form_iff ins x).1 h
 unfold nodeB at h1
 unfold nodeN at h2
 by_cases e1:x.kind=1
 ·rw[if_neg (by omega),if_neg (by omega),if_neg (by omega)]at h2;left;omega
 rw[if_neg e1]at h1
 by_cases e2:x.kind=2
 ·rw[if_pos e2]at h1;rw[if_neg (by omega),if_neg (by omega),if_neg (by omega)]at h2;have:=h1.1;right;left;exact⟨e2,this,by omega⟩
 rw[if_neg e2]at h1
 by_cases e3:x.kind=3∨x.kind=4
 ·rw[if_pos e3]at h1
  rcases e3 with e|e
  ·rw[if_neg (by omega),if_neg (by omega),if_neg (by omega)]at h2;exact .inr (.inr (.inl ⟨e,h1.1,by omega⟩))
  ·rw[if_pos (by omega)]at h2;exact .inr (.inr (.inr (.inl ⟨e,h1.1,by omega⟩)))
 rw[if_neg e3]at h1
 by_cases e5:x.kind=5
 ·rw[if_pos e5]at h1;rw[if_neg (by omega),if_pos (by omega)]at h2;exact .inr (.inr (.inr (.inr (.inl ⟨e5,h1.1,by omega⟩))))
 rw[if_neg e5]at h1
 by_cases e6:x.kind=6
 ·rw[if_pos (by omega)]at h2;exact .inr (.inr (.inr (.inr (.inr (.inl ⟨e6,by omega⟩)))))
 rw[if_neg e6]at h1
 by_cases e7:x.kind=7
 ·rw[if_neg (by omega),if_pos (by omega)]at h2;exact .inr (.inr (.inr (.inr (.inr (.inr (.inl ⟨e7,by omega⟩))))))
 rw[if_neg e7]at h1
 by_cases e8:x.kind=8∨x.kind=9
 ·rcases e8 with e|e
  ·rw[if_neg (by omega),if_neg (by omega),if_pos e]at h2;exact .inr (.inr (.inr (.inr (.inr (.inr (.inr (.inl ⟨e,by omega⟩)))))))
  ·rw[if_neg (by omega),if_pos (by omega)]at h2;exact .inr (.inr (.inr (.inr (.inr (.inr (.inr (.inr ⟨e,by omega⟩)))))))
 ·rw[if_neg e8]at h1;exact h1.elim
theorem ruleT_ok(hT:TimesC)(hO:OverC)(c:Cat)(e0:Str)(tb:Option Tab)(x:Ex)(hf:form tb.isSome x=true)(l:List Ty)(hl:l.length=x.args.length):Pure Tryz.prog (ruleF x.kind) [.agg (scA c e0 (fldA tb)),.agg x.row,tysA l] (tyA (opT c e0 tb x l)):=by
 unfold opT ruleF
 rcases form_kind hf with⟨h,h1⟩|⟨h,h0,h1⟩|⟨h,h0,h1⟩|⟨h,h0,h1⟩|⟨h,h0,h1⟩|⟨h,h1⟩|⟨h,h1⟩|⟨h,h1⟩|⟨h,h1⟩<;>rw[h]
 ·exact literalT_ok c e0 tb x l
 ·cases tb with
  |none=>cases h0
  |some t=>exact fieldOfT_ok c e0 t x l
 ·cases tb with
  |none=>exact featureT_ok c e0 x l
  |some t=>cases h0
 ·cases tb with
  |none=>exact lookupT_ok c e0 x l (by omega)
  |some t=>cases h0
 ·cases tb with
  |none=>exact aggregateT_ok c e0 x l (by omega)
  |some t=>cases h0
 ·exact unaryT_ok c e0 tb x l (by omega)
 ·exact binaryT_ok hT hO c e0 tb x l (by omega)
 ·exact choiceT_ok c e0 tb x l (by omega)
 ·exact fallbackT_ok c e0 tb x l (by omega)
def Gr3(rows:List (List AV))(y:AV)(τ:Store):Prop:=(rows=[]∧y=nilA∧τ=[])∨∃ b u c,y= .own 3 66 b u c rows∧τ=[(66,b,.tail u c)]
theorem gr3_wk{L:List Ty}{y:AV}{τ:Store}(h:Gr3 (L.map Ty.cells) y τ):Wk y (tysA L):=by
 rcases h with⟨hE,rfl,rfl⟩|⟨b,u,c,rfl,rfl⟩
 ·rw[List.map_eq_nil_iff.1 hE];exact .nil
 ·exact .own _
theorem fin_err{c:Cat}{e0:Str}{tb:Option Tab}{x:Ex}{l:List Ty}{e:Int}(h:¬e=0):finT c e0 tb x 0 (l,e)=(tyZ,e):=by
 unfold finT;rw[if_neg (by simp),if_pos h]
theorem fin_op{c:Cat}{e0:Str}{tb:Option Tab}{x:Ex}{l:List Ty}:finT c e0 tb x 0 (l++[],0)=opT c e0 tb x l:=by
 unfold finT;rw[if_neg (by simp),if_neg (by simp),List.append_nil]
theorem ruleF_callable(k:Int):callable Tryz.prog (ruleF k)=true:=by
 unfold ruleF
 repeat' first|rfl|split
def InfOK(C:Cat)(e0:Str)(x:Ex):Prop:=∀ tb,form tb.isSome x=true→Sx.Pure Tryz.prog 58 [.agg (scA C e0 (fldA tb)),.agg x.row] (tyA (inf C e0 x tb))
theorem infer_in(hT:TimesC)(hO:OverC)(C:Cat)(e0:Str)(x:Ex)(ih:∀ i,i<x.args.length→InfOK C e0 (x.args.getD i default))(tb:Option Tab)(hf:form tb.isSome x=true)(hk:¬x.kind=5):Pure Tryz.prog 58 [.agg (scA C e0 (fldA tb)),.agg x.row] (tyA (inf C e0 x tb)):=by
 have hkk:=form_kind hf
 have hB:=rule_ok C e0 tb x.kind (by omega)
 have hR0:=ruleT_ok hT hO C e0 tb x hf
 have hal:x.args.length≤3:=by omega
 have hfa:∀ i,i<x.args.length→form tb.isSome (x.args.getD i default)=true:=fun i hi=>by
  have:=((form_iff _ x).1 hf).2.2.1 _ (getD_mem hi)
  rwa [decide_eq_false hk,Bool.or_false]at this
 have hA0:=fun(i:Nat) (h:i<x.args.length)=>ih i h tb (hfa i h)
 have hin:inT C e0 tb x=(tb,0):=if_neg hk
 rw[inf_eq,hin]
 simp only[Ex.row_eq x]at hR0 ⊢
 rcases tb with _|tab
 all_goals
  refine Pure.runk (fun _=>0) Tryz.func58 comp58 era58 (Nat.le_of_ble_eq_true rfl) fun σ=> ?_
  refine .k1 ?_
  refine .k2 ?_
  repeat'((fail_if_success (show WK _ _ _ _ _ _ _ _));(first|exact .nil|refine .k0 ?_|refine .k1 ?_|refine .r1 ?_ ?_|(refine .l1 ?_;intro b)|(refine .m1 ?_ ?_;intro b)|fail))
  refine .k0 ?_
  rename_i b2 b3
  rename Nat=>b4
  refine WK_frz 3 b3 (.there .here) (.same (.p0 (.same .nil))) ?_
  repeat'(first|exact .nil|refine .k0 ?_|refine .k1 ?_|refine .k2 ?_|refine .k6 ?_|refine .k9 ?_|(refine .cd ?_ ?_<;>(intro hc;skip))|refine .r1 ?_ ?_|(refine .l1 ?_;intro b)|(refine .m2 ?_ ?_;intro hlen)|fail)
  all_goals(try simp only[BL]at *)
  all_goals try(exfalso;exact hk hc)
  rename Nat=>b6
 ·refine WK_loop (fun m rg σ'=>∃ (i:Nat) (L:List Ty) (y:AV) (τ:Store),i≤x.args.length∧m=x.args.length-i∧L.length=i∧infL C e0 x.args none=(L++(infL C e0 (x.args.drop i) none).1,(infL C e0 (x.args.drop i) none).2)∧Gr3 (L.map Ty.cells) y τ∧σ'=τ++(6,b6,Blk.cells (scA C e0 (fldA none)))::(4,b4,Blk.cells [iv 0,nilA,sv s0])::(2,b2,Blk.cells (scA C e0 (fldA none)))::σ∧rg=[(2,.lp 2 b2 0),(3,.pc x.lay),(4,.lp 4 b4 0),(6,.lp 6 b6 0),(9,y),(45,.sl false 12 (x.args.map Ex.row)),(46,iv x.args.length),(47,iv i)]) x.args.length rfl ⟨_,_,Zr,Zs,0,[],_,_,Nat.zero_le _,rfl,rfl,rfl,.inl ⟨rfl,rfl,rfl⟩,rfl,rfl⟩ ?_
  rintro m _ _ ⟨i,L,y,τ,hi,hm,hL,hinf,hG,rfl,rfl⟩
  have hW:=gr3_wk hG
  have hR1:=fun(h:L.length=x.args.length)=>(hR0 L h).wk (.cons (.refl _) (.cons (.refl _) (.cons hW .nil)))
  have hA:=hA0 i
  have hd:=fun(h:i<x.args.length) TB=>infL_drop C e0 h TB
  have hG2:=hG
  rcases hG with⟨hE,rfl,rfl⟩|⟨b7,u7,c7,rfl,rfl⟩
  all_goals
   repeat'(first|exact .nil|refine .k0 ?_|refine .k1 ?_|refine .k2 ?_|refine .k3 ?_|refine .k6 ?_|refine .k7 ?_|refine .k8 ?_|refine .k9 ?_|(refine .cd ?_ ?_<;>(intro hc;skip))|refine .r1 ?_ ?_|(refine .l1 ?_;intro b)|refine .t1 ?_ ?_ ?_|refine .u1 ?_ ?_ ?_ (fun b u c=> ?_)|refine .u2 ?_ ?_ ?_ (fun b u c=> ?_)|refine .an rfl (by intro hob;first|exact fail_ok _|exact hA (by(simp only[BL]at *;omega))|exact hB) ?_ ?_|(show List.all _ _=true;rfl)|fail)
   try any_goals(exact Zo)
   all_goals(try simp only[BL]at *)
   all_goals try(refine VY_callc rfl (ruleF_callable _) (fun _=>hR1 (by omega)) OB.nil ?_)
   all_goals repeat'(first|exact .nil|refine .k0 ?_|refine .k1 ?_|refine .k7 ?_|refine .r1 ?_ ?_|fail)
   all_goals try any_goals(fail)
   all_goals(try simp only[BL]at *)
   all_goals try(show _≤1000000;simp only[List.length_cons,List.length_nil];omega)
   all_goals try(show _ * _≤_;simp only[List.length_map,List.length_cons,List.length_nil];omega)
   all_goals first
    |(show Sx.Fin _ _ _ _
      have hil:i<x.args.length:=by omega
      rw[hinf,hd hil,if_pos hc,fin_err hc];exact Zw;done)
    |(show Sx.Fin _ _ _ _
      have hil:i=x.args.length:=by omega
      subst hil
      rw[hinf,List.drop_length,infL,fin_op];exact Zw;done)
    |(have hil:i<x.args.length:=by omega
      refine⟨m-1,by omega,_,[(66,b,.tail u c)]++(6,b6,Blk.cells (scA C e0 (fldA none)))::(4,b4,Blk.cells [iv 0,nilA,sv s0])::(2,b2,Blk.cells (scA C e0 (fldA none)))::σ,Zr,Zs,i+1,L++[(inf C e0 (x.args.getD i default) none).1],_,_,by omega,by omega,by simp[hL],?_,.inr ⟨b,u,c,?_,rfl⟩,rfl,by rw[up1 (n:=50) (by omega) (by decide)]⟩
      ·rw[hinf,hd hil,if_neg (by rw[hc];simp)];simp
      ·rw[List.map_append];first|rfl|(rw[hE];rfl))
 ·refine WK_loop (fun m rg σ'=>∃ (i:Nat) (L:List Ty) (y:AV) (τ:Store),i≤x.args.length∧m=x.args.length-i∧L.length=i∧infL C e0 x.args (some tab)=(L++(infL C e0 (x.args.drop i) (some tab)).1,(infL C e0 (x.args.drop i) (some tab)).2)∧Gr3 (L.map Ty.cells) y τ∧σ'=τ++(6,b6,Blk.cells (scA C e0 (fldA (some tab))))::(4,b4,Blk.cells [iv 0,nilA,sv s0])::(2,b2,Blk.cells (scA C e0 (fldA (some tab))))::σ∧rg=[(2,.lp 2 b2 0),(3,.pc x.lay),(4,.lp 4 b4 0),(6,.lp 6 b6 0),(9,y),(45,.sl false 12 (x.args.map Ex.row)),(46,iv x.args.length),(47,iv i)]) x.args.length rfl ⟨_,_,Zr,Zs,0,[],_,_,Nat.zero_le _,rfl,rfl,rfl,.inl ⟨rfl,rfl,rfl⟩,rfl,rfl⟩ ?_
  rintro m _ _ ⟨i,L,y,τ,hi,hm,hL,hinf,hG,rfl,rfl⟩
  have hW:=gr3_wk hG
  have hR1:=fun(h:L.length=x.args.length)=>(hR0 L h).wk (.cons (.refl _) (.cons (.refl _) (.cons hW .nil)))
  have hA:=hA0 i
  have hd:=fun(h:i<x.args.length) TB=>infL_drop C e0 h TB
  have hG2:=hG
  rcases hG with⟨hE,rfl,rfl⟩|⟨b7,u7,c7,rfl,rfl⟩
  all_goals
   repeat'(first|exact .nil|refine .k0 ?_|refine .k1 ?_|refine .k2 ?_|refine .k3 ?_|refine .k6 ?_|refine .k7 ?_|refine .k8 ?_|refine .k9 ?_|(refine .cd ?_ ?_<;>(intro hc;skip))|refine .r1 ?_ ?_|(refine .l1 ?_;intro b)|refine .t1 ?_ ?_ ?_|refine .u1 ?_ ?_ ?_ (fun b u c=> ?_)|refine .u2 ?_ ?_ ?_ (fun b u c=> ?_)|refine .an rfl (by intro hob;first|exact fail_ok _|exact hA (by(simp only[BL]at *;omega))|exact hB) ?_ ?_|(show List.all _ _=true;rfl)|fail)
   try any_goals(exact Zo)
   all_goals(try simp only[BL]at *)
   all_goals try(refine VY_callc rfl (ruleF_callable _) (fun _=>hR1 (by omega)) OB.nil ?_)
   all_goals repeat'(first|exact .nil|refine .k0 ?_|refine .k1 ?_|refine .k7 ?_|refine .r1 ?_ ?_|fail)
   all_goals try any_goals(fail)
   all_goals(try simp only[BL]at *)
   all_goals try(show _≤1000000;simp only[List.length_cons,List.length_nil];omega)
   all_goals try(show _ * _≤_;simp only[List.length_map,List.length_cons,List.length_nil];omega)
   all_goals first
    |(show Sx.Fin _ _ _ _
      have hil:i<x.args.length:=by omega
      rw[hinf,hd hil,if_pos hc,fin_err hc];exact Zw;done)
    |(show Sx.Fin _ _ _ _
      have hil:i=x.args.length:=by omega
      subst hil
      rw[hinf,List.drop_length,infL,fin_op];exact Zw;done)
    |(have hil:i<x.args.length:=by omega
      refine⟨m-1,by omega,_,[(66,b,.tail u c)]++(6,b6,Blk.cells (scA C e0 (fldA (some tab))))::(4,b4,Blk.cells [iv 0,nilA,sv s0])::(2,b2,Blk.cells (scA C e0 (fldA (some tab))))::σ,Zr,Zs,i+1,L++[(inf C e0 (x.args.getD i default) (some tab)).1],_,_,by omega,by omega,by simp[hL],?_,.inr ⟨b,u,c,?_,rfl⟩,rfl,by rw[up1 (n:=50) (by omega) (by decide)]⟩
      ·rw[hinf,hd hil,if_neg (by rw[hc];simp)];simp
      ·rw[List.map_append];first|rfl|(rw[hE];rfl))
theorem infer_agg(hT:TimesC)(hO:OverC)(C:Cat)(e0:Str)(x:Ex)(ih:∀ i,i<x.args.length→InfOK C e0 (x.args.getD i default))(hf:form false x=true)(hk:x.kind=5):Pure Tryz.prog 58 [.agg (scA C e0 (fldA none)),.agg x.row] (tyA (inf C e0 x none)):=by
 have hkk:=form_kind hf
 have hB:=rule_ok C e0 none x.kind (by omega)
 have hR0:=ruleT_ok hT hO C e0 none x hf
 have hal:x.args.length≤3:=by omega
 have hfa:∀ i,i<x.args.length→form true (x.args.getD i default)=true:=fun i hi=>by
  have:=((form_iff _ x).1 hf).2.2.1 _ (getD_mem hi)
  rwa [decide_eq_true hk,Bool.or_true]at this
 have hA0:=fun(tab:Tab) (i:Nat) (h:i<x.args.length)=>ih i h (some tab) (hfa i h)
 have hi:=indexTb_ok C.tables x
 rw[inf_eq]
 rcases firstTb (fs:=C.tables) (n:=x.table)with⟨h1,h2⟩|⟨i0,h0,h2,h1⟩
 ·have hin:inT C e0 none x=(none,4):=by unfold inT;rw[if_pos hk,h1]
  rw[hin,show finT C e0 none x 4 (infL C e0 x.args none)=(tyZ,4)from if_pos (by simp)]
  rw[h2]at hi
  simp only[Ex.row_eq x]at hR0 hi ⊢
  refine Pure.runk (fun _=>0) Tryz.func58 comp58 era58 (Nat.le_of_ble_eq_true rfl) fun σ=> ?_
  refine .k1 ?_
  refine .k2 ?_
  repeat'((fail_if_success (show WK _ _ _ _ _ _ _ _));(first|exact .nil|refine .k0 ?_|refine .k1 ?_|refine .r1 ?_ ?_|(refine .l1 ?_;intro b)|(refine .m1 ?_ ?_;intro b)|fail))
  refine .k0 ?_
  rename_i b2 b3
  refine WK_frz 3 b3 (.there .here) (.same (.p0 (.same .nil))) ?_
  repeat'(first|exact .nil|refine .k0 ?_|refine .k1 ?_|refine .k2 ?_|refine .k6 ?_|refine .k7 ?_|refine .k9 ?_|(refine .cd ?_ ?_<;>(intro hc;skip))|refine .r1 ?_ ?_|(refine .l1 ?_;intro b)|(refine .m2 ?_ ?_;intro hlen)|refine .t1 ?_ ?_ ?_|refine .an rfl (by intro hob;first|exact hi|exact fail_ok _|fail) ?_ ?_|fail)
  try any_goals(exact Zo)
  all_goals(try simp only[BL]at *)
  all_goals first|(exfalso;omega)|(show Sx.Fin _ _ _ _;(refine Sx.Fin.wk Zs ?_;repeat' first|exact .refl _|fail);done)
 by_cases hent:(C.tables.getD i0 default).entity=e0
 rotate_left
 ·have hin:inT C e0 none x=(none,5):=by unfold inT;rw[if_pos hk,h1];exact if_neg hent
  rw[hin,show finT C e0 none x 5 (infL C e0 x.args none)=(tyZ,5)from if_pos (by simp)]
  rw[h2]at hi
  simp only[Ex.row_eq x]at hR0 hi ⊢
  refine Pure.runk (fun _=>0) Tryz.func58 comp58 era58 (Nat.le_of_ble_eq_true rfl) fun σ=> ?_
  refine .k1 ?_
  refine .k2 ?_
  repeat'((fail_if_success (show WK _ _ _ _ _ _ _ _));(first|exact .nil|refine .k0 ?_|refine .k1 ?_|refine .r1 ?_ ?_|(refine .l1 ?_;intro b)|(refine .m1 ?_ ?_;intro b)|fail))
  refine .k0 ?_
  rename_i b2 b3
  refine WK_frz 3 b3 (.there .here) (.same (.p0 (.same .nil))) ?_
  repeat'(first|exact .nil|refine .k0 ?_|refine .k1 ?_|refine .k2 ?_|refine .k6 ?_|refine .k7 ?_|refine .k9 ?_|(refine .cd ?_ ?_<;>(intro hc;skip))|refine .r1 ?_ ?_|(refine .l1 ?_;intro b)|(refine .m2 ?_ ?_;intro hlen)|refine .t1 ?_ ?_ ?_|refine .an rfl (by intro hob;first|exact hi|exact fail_ok _|fail) ?_ ?_|fail)
  try any_goals(exact Zo)
  all_goals(try simp only[BL]at *)
  all_goals first|(exfalso;omega)|(exfalso;exact hent hc)|(show Sx.Fin _ _ _ _;(refine Sx.Fin.wk Zs ?_;repeat' first|exact .refl _|fail);done)
 have hin:inT C e0 none x=(some (C.tables.getD i0 default),0):=by unfold inT;rw[if_pos hk,h1];exact if_pos hent
 rw[hin]
 rw[h2]at hi
 simp only[Ex.row_eq x]at hR0 hi ⊢
 have hA0:=hA0 (C.tables.getD i0 default)
 refine Pure.runk (fun _=>0) Tryz.func58 comp58 era58 (Nat.le_of_ble_eq_true rfl) fun σ=> ?_
 refine .k1 ?_
 refine .k2 ?_
 repeat'((fail_if_success (show WK _ _ _ _ _ _ _ _));(first|exact .nil|refine .k0 ?_|refine .k1 ?_|refine .r1 ?_ ?_|(refine .l1 ?_;intro b)|(refine .m1 ?_ ?_;intro b)|fail))
 refine .k0 ?_
 rename_i b2 b3
 rename Nat=>b4
 refine WK_frz 3 b3 (.there .here) (.same (.p0 (.same .nil))) ?_
 repeat'((fail_if_success (show WK _ _ _ _ (.keep [2,3,4,6,8] _) _ _ _));(first|exact .nil|refine .k0 ?_|refine .k1 ?_|refine .k2 ?_|refine .k6 ?_|refine .k7 ?_|refine .k9 ?_|(refine .cd ?_ ?_<;>(intro hc;skip))|refine .r1 ?_ ?_|(refine .l1 ?_;intro b)|(refine .m2 ?_ ?_;intro hlen)|refine .t1 ?_ ?_ ?_|refine .an rfl (by intro hob;first|exact hi|exact fail_ok _|fail) ?_ ?_|fail))
 try any_goals(exact Zo)
 all_goals(try simp only[BL]at *)
 ·exfalso;omega
 rotate_left
 ·exfalso;exact hc hk
 refine .k0 ?_
 rename_i b6 _
 refine WK_frz 8 b .here (.same (.same (.same (.same (.p0 .nil))))) ?_
 repeat'(first|exact .nil|refine .k0 ?_|refine .k1 ?_|refine .k2 ?_|refine .k6 ?_|refine .k7 ?_|refine .k9 ?_|(refine .cd ?_ ?_<;>(intro hc;skip))|refine .r1 ?_ ?_|(refine .m2 ?_ ?_;intro hlen)|refine .an rfl (by intro hob;first|exact fail_ok _|fail) ?_ ?_|fail)
 all_goals(try simp only[BL]at *)
 ·exfalso;exact hc hent
 refine WK_loop (fun m rg σ'=>∃ (i:Nat) (L:List Ty) (y:AV) (τ:Store),i≤x.args.length∧m=x.args.length-i∧L.length=i∧infL C e0 x.args (some (C.tables.getD i0 default))=(L++(infL C e0 (x.args.drop i) (some (C.tables.getD i0 default))).1,(infL C e0 (x.args.drop i) (some (C.tables.getD i0 default))).2)∧Gr3 (L.map Ty.cells) y τ∧σ'=τ++(6,b6,Blk.cells (scA C e0 (fldA (some (C.tables.getD i0 default)))))::(4,b4,Blk.cells [iv 0,nilA,sv s0])::(2,b2,Blk.cells (scA C e0 (fldA none)))::σ∧rg=[(2,.lp 2 b2 0),(3,.pc x.lay),(4,.lp 4 b4 0),(6,.lp 6 b6 0),(9,y),(45,.sl false 12 (x.args.map Ex.row)),(46,iv x.args.length),(47,iv i)]) x.args.length rfl ⟨_,_,Zr,Zs,0,[],_,_,Nat.zero_le _,rfl,rfl,rfl,.inl ⟨rfl,rfl,rfl⟩,rfl,rfl⟩ ?_
 rintro m _ _ ⟨i,L,y,τ,hi,hm,hL,hinf,hG,rfl,rfl⟩
 have hW:=gr3_wk hG
 have hR1:=fun(h:L.length=x.args.length)=>(hR0 L h).wk (.cons (.refl _) (.cons (.refl _) (.cons hW .nil)))
 have hA:=hA0 i
 have hd:=fun(h:i<x.args.length) TB=>infL_drop C e0 h TB
 have hG2:=hG
 rcases hG with⟨hE,rfl,rfl⟩|⟨b7,u7,c7,rfl,rfl⟩
 all_goals
  repeat'(first|exact .nil|refine .k0 ?_|refine .k1 ?_|refine .k2 ?_|refine .k3 ?_|refine .k6 ?_|refine .k7 ?_|refine .k8 ?_|refine .k9 ?_|(refine .cd ?_ ?_<;>(intro hc;skip))|refine .r1 ?_ ?_|(refine .l1 ?_;intro b)|refine .t1 ?_ ?_ ?_|refine .u1 ?_ ?_ ?_ (fun b u c=> ?_)|refine .u2 ?_ ?_ ?_ (fun b u c=> ?_)|refine .an rfl (by intro hob;first|exact fail_ok _|exact hA (by(simp only[BL]at *;omega))|exact hB) ?_ ?_|(show List.all _ _=true;rfl)|fail)
  try any_goals(exact Zo)
  all_goals(try simp only[BL]at *)
  all_goals try(refine VY_callc rfl (ruleF_callable _) (fun _=>hR1 (by omega)) OB.nil ?_)
  all_goals repeat'(first|exact .nil|refine .k0 ?_|refine .k1 ?_|refine .k7 ?_|refine .r1 ?_ ?_|fail)
  all_goals try any_goals(fail)
  all_goals(try simp only[BL]at *)
  all_goals try(show _≤1000000;simp only[List.length_cons,List.length_nil];omega)
  all_goals try(show _ * _≤_;simp only[List.length_map,List.length_cons,List.length_nil];omega)
  all_goals first
   |(show Sx.Fin _ _ _ _
     have hil:i<x.args.length:=by omega
     rw[hinf,hd hil,if_pos hc,fin_err hc];exact Zw;done)
   |(show Sx.Fin _ _ _ _
     have hil:i=x.args.length:=by omega
     subst hil
     rw[hinf,List.drop_length,infL,fin_op];exact Zw;done)
   |(have hil:i<x.args.length:=by omega
     refine⟨m-1,by omega,_,[(66,b,.tail u c)]++(6,b6,Blk.cells (scA C e0 (fldA (some (C.tables.getD i0 default)))))::(4,b4,Blk.cells [iv 0,nilA,sv s0])::(2,b2,Blk.cells (scA C e0 (fldA none)))::σ,Zr,Zs,i+1,L++[(inf C e0 (x.args.getD i default) (some (C.tables.getD i0 default))).1],_,_,by omega,by omega,by simp[hL],?_,.inr ⟨b,u,c,?_,rfl⟩,rfl,by rw[up1 (n:=50) (by omega) (by decide)]⟩
     ·rw[hinf,hd hil,if_neg (by rw[hc];simp)];simp
     ·rw[List.map_append];first|rfl|(rw[hE];rfl))
theorem infer_all(hT:TimesC)(hO:OverC)(C:Cat)(e0:Str):∀ (n:Nat) (x:Ex),x.size≤n→InfOK C e0 x
 |0,x,h=>by cases x;simp[Ex.size]at h
 |n+1,x,h=>fun tb hf=>by
  have ih:∀ i,i<x.args.length→InfOK C e0 (x.args.getD i default):=fun i hi=>infer_all hT hO C e0 n _ (by have:=Ex.size_arg x hi;omega)
  by_cases hk:x.kind=5
  ·have h5:tb=none:=by
    rcases form_kind hf with h|h|h|h|h|h|h|h|h
    all_goals first|omega|skip
    cases tb with
    |none=>rfl
    |some t=>exact absurd h.2.1 (by simp)
   subst h5
   exact infer_agg hT hO C e0 x ih hf hk
  ·exact infer_in hT hO C e0 x ih tb hf hk
theorem infer_ok(hT:TimesC)(hO:OverC)(C:Cat)(e0:Str)(x:Ex):InfOK C e0 x:=infer_all hT hO C e0 x.size x (Nat.le_refl _)
def inferT(C:Cat)(e0:Str)(x:Ex):Ty×Int:=if shape x≠0 then(tyZ,shape x)else inf C e0 x none
theorem shape_form0{x:Ex}(h:shape x=0):form false x=true:=by
 unfold shape at h
 split at h
 ·omega
 ·split at h
  ·assumption
  ·omega
theorem inferC_ok(hT:TimesC)(hO:OverC)(C:Cat)(e0:Str)(x:Ex)(hs:x.size≤100000):Pure Tryz.prog 27 [.agg C.cells,sv e0,.agg x.row] (tyA (inferT C e0 x)):=by
 have hS:=shape_ok x hs
 have hI:=fun(h:shape x=0)=>infer_ok hT hO C e0 x none (shape_form0 h)
 unfold inferT
 generalize inf C e0 x none=r at *
 generalize shape x=q at *
 refine Pure.runk (fun _=>0) Tryz.func27 comp27 era27 (Nat.le_of_ble_eq_true rfl) fun σ=> ?_
 repeat'(first|exact .nil|refine .k0 ?_|refine .k1 ?_|refine .k2 ?_|refine .k7 ?_|refine .k9 ?_|(refine .cd ?_ ?_<;>(intro hc;skip))|refine .r1 ?_ ?_|(refine .l1 ?_;intro b)|(refine .m1 ?_ ?_;intro b)|refine .an rfl (by intro hob;first|exact hS|exact fail_ok _|exact hI (by(simp only[BL]at *;omega))) ?_ ?_|fail)
 all_goals(try simp only[BL]at *)
 ·rw[if_pos hc];exact Zw
 ·rw[if_neg (by simpa using hc)];exact Zw
end Go.Proofs.YtekngilbecjkhaaGreatDoor
set_option maxHeartbeats 1000000
namespace Go.Proofs.YtekngilbecjkhaaGreatDoor
open Go.Sx Go.Proofs Go.Tb Go.RowKit
def vk(p:Str×Int):Value:= .agg #[.string p.1,.int .i64 p.2]
theorem str_beq(a b:ByteArray):(a == b)=decide (a=b):=by
 obtain⟨a⟩:=a
 obtain⟨b⟩:=b
 rw[Bool.eq_iff_iff]
 show(a == b)=true↔_
 simp
theorem vk_stood:Tryz.prog.stoodInHeld 105=false:=by kernel_rfl
theorem vk_eq(w:World)(p q:Str×Int):(Op.equal 105 (vk p) (vk q)).run Tryz.prog w= .ok (decide (p=q)) w:=by
 have h0:=Tryz.underlying105
 have h1:=Tryz.underlying9
 have h2:=Tryz.underlying3
 have h3:=vk_stood
 have key:∀ d:Nat,(Op.equalIn (d+1+1) 105 (vk p) (vk q)).run Tryz.prog w= .ok (decide (p=q)) w:=fun d=>by
  simp only[Op.equalIn,vk,Sem.run_bind,run_under h0,Result.andThen_ok]
  simp[h3,part,sizeOf,program,isAgg,Op.equalIn,run_under h1,run_under h2]
  show(if Tryz.prog.stoodInHeld 105=true then _ else(if(p.fst == q.fst)=false then Result.ok false w else if p.snd=q.snd then Result.ok true w else Result.ok false w))=_
  rw[h3,if_neg (by decide),str_beq]
  obtain⟨a,i⟩:=p
  obtain⟨b,j⟩:=q
  by_cases h:a=b
  ·subst h
   by_cases h':i=j
   ·subst h';simp
   ·simp[h']
  ·simp[h]
 exact key 9998
theorem vk_check(w:World)(b:Bool)(p:Str×Int):(Instr.checkKey b 10000 105 (vk p)).run Tryz.prog w= .ok () w:=by
 have h0:=Tryz.underlying105
 have h1:=Tryz.underlying9
 have h2:=Tryz.underlying3
 have key:∀ d:Nat,(Instr.checkKey b (d+1+1) 105 (vk p)).run Tryz.prog w= .ok () w:=fun d=>by
  simp only[Instr.checkKey,vk,Sem.run_bind,run_under h0,Result.andThen_ok]
  simp[part,sizeOf,program,isAgg,Instr.checkKey,run_under h1,run_under h2]
 exact key 9998
def vE(vs:List (Str×Int)):List (Value×Nat×AV):=vs.zipIdx.map fun p=>(vk p.1,p.2,.v (.bool true))
theorem vE_snoc(vs:List (Str×Int))(p:Str×Int):vE vs++[(vk p,vs.length,.v (.bool true))]=vE (vs++[p]):=by
 unfold vE;rw[List.zipIdx_append];simp
theorem vk_find(w:World)(p:Str×Int):∀ (vs:List (Str×Int)) (l:List MapEntry) (k i:Nat),l.map (fun e=>(e.key,e.born))=(vs.zipIdx k).map (fun q=>(vk q.1,q.2))→RL (fun _ _=>none) (vs.map fun _=> .v (.bool true)) (l.map (·.val))→
  ∃ r,(Instr.findAsking 105 (vk p) l i).run Tryz.prog w= .ok r w∧(p∈vs→∃ j,r=some (j,.bool true))∧(p∉vs→r=none)
 |[],l,k,i,h,_=>by
  have:l=[]:=by simpa using h
  subst this
  exact⟨none,by simp[Instr.findAsking],fun h=>(by cases h),fun _=>rfl⟩
 |v::vs,l,k,i,h,hv=>by
  cases l with
  |nil=>simp at h
  |cons e l=>
   simp only[List.zipIdx_cons,List.map_cons,List.cons.injEq,Prod.mk.injEq]at h
   obtain⟨u,us,e1,h2,h3⟩:=RL.uncons (x:= .v (.bool true)) (xs:=vs.map fun _=> .v (.bool true)) hv
   simp only[List.map_cons,List.cons.injEq]at e1
   obtain⟨r,hr,ha,hb⟩:=vk_find w p vs l (k+1) (i+1) h.2 (by rw[e1.2];exact h3)
   by_cases hp:p=v
   ·subst hp
    refine⟨some (i,.bool true),?_,fun _=>⟨i,rfl⟩,fun h=>absurd (List.mem_cons_self) h⟩
    simp only[Instr.findAsking,h.1.1,Sem.run_bind,vk_eq,Result.andThen_ok,decide_true,if_true,Sem.run_pure]
    rw[e1.1,h2.of_v]
   ·refine⟨r,?_,fun h=>ha ((List.mem_cons.1 h).resolve_left hp),fun h=>hb fun h'=>h (List.mem_cons_of_mem _ h')⟩
    simp only[Instr.findAsking,h.1.1,Sem.run_bind,vk_eq,Result.andThen_ok,decide_eq_false hp,Bool.false_eq_true,if_false]
    exact hr
section
variable {M:Mem}{w0 w:World}{σ:Store}
theorem vE_vals(vs:List (Str×Int)):(vE vs).map (·.2.2)=vs.map fun _=>AV.v (.bool true):=by
 unfold vE
 rw[List.map_map]
 refine List.ext_getElem (by simp) fun j h1 h2=>by simp
theorem vE_keys(vs:List (Str×Int)):(vE vs).map (fun e=>(e.1,e.2.1))=vs.zipIdx.map fun q=>(vk q.1,q.2):=by
 unfold vE;rw[List.map_map];rfl
theorem rl_any{vs:List (Str×Int)}{l:List Value}(h:RL M (vs.map fun _=>AV.v (.bool true)) l):RL (fun _ _=>none) (vs.map fun _=>AV.v (.bool true)) l:=by
 refine⟨h.1,fun i h1 h2=> ?_⟩
 have:=h.2 i h1 h2
 simp only[List.getElem_map]at this ⊢
 rw[this.of_v];exact .v _
theorem zero_bool(w:World):(zeroValue 4).run Tryz.prog w= .ok (.bool false) w:=by
 have h:(Tryz.prog.info? 4).map (fun i=>i.zero)=some (some (.bool false)):=by kernel_rfl
 obtain⟨i,h1,h2⟩:=Option.map_eq_some_iff.1 h
 simp[zeroValue,typeInfo,h1,h2]
theorem vk_key(w:World)(p:Str×Int){vs:List (Str×Int)}{l:List MapEntry}(h:l.map (fun e=>(e.key,e.born))=(vE vs).map (fun e=>(e.1,e.2.1)))(hv:RL M ((vE vs).map (·.2.2)) (l.map (·.val))):
  ∃ r,(Instr.findKey 105 (vk p) l).run Tryz.prog w= .ok r w∧(p∈vs→∃ j,r=some (j,.bool true))∧(p∉vs→r=none):=by
 rw[vE_keys]at h
 rw[vE_vals]at hv
 obtain⟨r,h1,h2,h3⟩:=vk_find w p vs l 0 0 h (rl_any hv)
 refine⟨r,?_,h2,h3⟩
 have hu:=Tryz.underlying105
 simp only[Instr.findKey,Sem.run_bind,run_under hu,Result.andThen_ok]
 cases l with
 |nil=>
  simp only[Instr.findAsking,Sem.run_pure,Result.ok.injEq]at h1
  simp only[Instr.findNow,Sem.run_pure,h1.1]
 |cons e l=>
  have hN:∀ fs,Instr.findNow (.struct fs) (vk p) (e::l) 0=none:=fun _=>rfl
  rw[hN]
  exact h1
def hasV(vs:List (Str×Int))(p:Str×Int):Bool:=vs.any fun q=>decide (q=p)
theorem hasV_t{vs:List (Str×Int)}{p:Str×Int}:hasV vs p=true↔p∈vs:=by
 unfold hasV;rw[List.any_eq_true];simp
theorem of_vk{p:Str×Int}{v:Value}(h:R M (.agg [sv p.1,iv p.2]) v):v=vk p:=by
 cases h with
 |agg _ cs hl h=>
  match cs,hl,h with
  |[a,b],_,h=>
   have h0:=h 0 (by simp) (by simp)
   have h1:=h 1 (by simp) (by simp)
   simp only[List.getElem_cons_zero,List.getElem_cons_succ]at h0 h1
   rw[h0.of_v,h1.of_v];rfl
theorem OpS_lkv{tg b clk:Nat}{vs:List (Str×Int)}{t ty:TypeId}{q:TI}{m k:Operand}{p:Str×Int}(hl:lkt σ tg=some (b,.map (vE vs) clk)):
  OpS Tryz.prog (.lookup t m k false) ty [.mp 105 4,q] [m,k] [.mpt tg b,.agg [sv p.1,iv p.2]] σ fun y σ'=>y= .v (.bool (hasV vs p))∧σ'=σ:=by
 intro hti M w0 w ρ hI hR
 simp only[opInfo,List.cons.injEq,and_true]at hti
 have ht:=tiOf_mp hti.1
 obtain⟨v1,vs1,e1,h1,hR1⟩:=hR.uncons
 obtain⟨v2,e2,h2⟩:=hR1.un1
 subst e2
 simp only[List.map_cons,List.map_nil,List.cons.injEq,and_true]at e1
 obtain⟨hM,l,hh,hkeys,hvals⟩:=hI.getMap hl
 have g1:=h1.of_mpt
 have g2:=of_vk h2
 subst g1 g2
 obtain⟨r,hr,ha,hb⟩:=vk_key w p hkeys hvals
 refine⟨.value (.bool (hasV vs p)),w,M,.v (.bool (hasV vs p)),.bool (hasV vs p),σ,?_,rfl,Mem.le.refl _,hI,.v _,rfl,rfl⟩
 simp only[execOp,e1.1,e1.2,Instr.lookup,Sem.run_bind,run_under ht,Result.andThen_ok,getObj,Sem.run,hh,vk_check,hr,Sem.run_pure]
 by_cases hp:p∈vs
 ·obtain⟨j,rfl⟩:=ha hp
  simp[hasV_t.2 hp]
 ·rw[hb hp]
  have:hasV vs p=false:=by rw[← Bool.not_eq_true,hasV_t];exact hp
  simp[this,zero_bool]
theorem OpS_upv{tg b:Nat}{vs:List (Str×Int)}{t ty:TypeId}{q:TI}{m k x:Operand}{p:Str×Int}(hl:lkt σ tg=some (b,.map (vE vs) vs.length))(hn:hasV vs p=false):
  OpS Tryz.prog (.mapUpdate t m k x) ty [.mp 105 4,q] [m,k,x] [.mpt tg b,.agg [sv p.1,iv p.2],.v (.bool true)] σ fun y σ'=>y= .v undef∧σ'=upt σ tg b (.map (vE (vs++[p])) (vs++[p]).length):=by
 intro hti M w0 w ρ hI hR
 simp only[opInfo,List.cons.injEq,and_true]at hti
 have ht:=tiOf_mp hti.1
 obtain⟨v1,vs1,e1,h1,hR1⟩:=hR.uncons
 obtain⟨v2,vs2,e2,h2,hR2⟩:=hR1.uncons
 obtain⟨v3,e3,h3⟩:=hR2.un1
 subst e3 e2
 simp only[List.map_cons,List.map_nil,List.cons.injEq,and_true]at e1
 obtain⟨hM,l,hh,hkeys,hvals⟩:=hI.getMap hl
 have g1:=h1.of_mpt
 have g2:=of_vk h2
 have g3:=h3.of_v
 subst g1 g2 g3
 obtain⟨r,hr,ha,hb⟩:=vk_key w p hkeys hvals
 have hnp:p∉vs:=fun h=>by rw[hasV_t.2 h]at hn;cases hn
 have hrn:=hb hnp
 subst hrn
 let w':World:={w with heap:=w.heap.setIfInBounds b (.map (l++[(⟨vk p,.bool true,vs.length⟩:MapEntry)]).toArray (vs.length+1))}
 have hlt:b<w.heap.size:=(Array.getElem?_eq_some_iff.1 hh).1
 refine⟨.skip,w',M,.v undef,undef,_,?_,rfl,Mem.le.refl _,?_,.v _,rfl,rfl⟩
 ·have hu:l.toArray.push (⟨vk p,.bool true,vs.length⟩:MapEntry)=(l++[(⟨vk p,.bool true,vs.length⟩:MapEntry)]).toArray:=by apply Array.ext';simp
  simp only[execOp,e1.1,e1.2.1,e1.2.2,Instr.mapUpdate,Sem.run_bind,run_under ht,Result.andThen_ok,getObj,Sem.run,hh,vk_check,hr,Sem.run_pure,setObj,hu]
  rfl
 ·rw[List.length_append,List.length_singleton,← vE_snoc]
  refine hI.upd (w':=w') (y:= .map (vE vs++[(vk p,vs.length,.v (.bool true))]) (vs.length+1)) hl (fun k hk=> ?_) rfl rfl rfl (by simp[w']) hM ⟨hM,l++[⟨vk p,.bool true,vs.length⟩],?_,?_,?_⟩
  ·simp only[w']
   rw[Array.getElem?_setIfInBounds_ne (fun e=>hk e.symm)]
  ·simp only[w']
   rw[Array.getElem?_setIfInBounds_self_of_lt hlt]
  ·simp[hkeys]
  ·simp only[List.map_append,List.map_cons,List.map_nil]
   exact RL.append hvals (RL.cons (.v _) RL.nil)
end
section
variable {cfg:Nat→Nat}{K:Regs→Store→Prop}{E:List PanicEntry→Store→Prop}{σ σ':Store}{l:List CI}{d:Nat}{v:AV}{xr:XR}{ps:List Prop}{og:Option Bool}
theorem VX_lkv{t:TypeId}{q:TI}{ty:TypeId}{m k:Operand}{tg b b' clk:Nat}{vs:List (Str×Int)}{p:Str×Int}(h:argO xr none [m,k]=some (og,[.mpt tg b,.agg [sv p.1,iv p.2]],ps))(hl:lkt σ tg=some (b',.map (vE vs) clk))(hb:b=b')(hps:OB ps)
  (kk:VX Tryz.prog cfg l K E ((d,.s (.v (.bool (hasV vs p))))::xr) σ):VX Tryz.prog cfg (⟨some d,.extq (.lookup t m k false) ty [.mp 105 4,q] [m,k],none⟩::l) K E xr σ:=by
 obtain⟨hc,he⟩:=argO_eq h
 have hog:=argO_none h
 subst hog
 subst hb
 constructor
 simp only[vcX,vcG,vcO,he hps rfl]
 refine(OpS_lkv hl).mono fun y s ⟨e1,e2⟩=> ?_
 subst e1 e2
 exact kk.h
theorem VX_upv{t:TypeId}{q:TI}{ty:TypeId}{m k x:Operand}{tg b b':Nat}{vs:List (Str×Int)}{p:Str×Int}(h:argO xr none [m,k,x]=some (og,[.mpt tg b,.agg [sv p.1,iv p.2],.v (.bool true)],ps))(hl:lkt σ tg=some (b',.map (vE vs) vs.length))(hb:b=b')(hn:hasV vs p=false)(hu:updS σ tg b (.map (vE (vs++[p])) (vs++[p]).length)=some σ')(hps:OB ps)
  (kk:VX Tryz.prog cfg l K E xr σ'):VX Tryz.prog cfg (⟨none,.exts (.mapUpdate t m k x) ty [.mp 105 4,q] [m,k,x],none⟩::l) K E xr σ:=by
 obtain⟨hc,he⟩:=argO_eq h
 have hog:=argO_none h
 subst hog
 subst hb
 constructor
 simp only[vcX,vcG,vcO,he hps rfl]
 refine(OpS_upv hl hn).mono fun y s ⟨e1,e2⟩=> ?_
 rw[updS_eq hu]at e2
 subst e1 e2
 exact kk.h
end
end Go.Proofs.YtekngilbecjkhaaGreatDoor
set_option maxHeartbeats 16000000
namespace Go.Proofs.YtekngilbecjkhaaGreatDoor
open Go.Sx Go.Proofs Go.Tb
def feaErr(C:Cat)(f:Fea):Int:=
 if¬(Name f.name∧Name f.entity)∨f.version<0 then 3 else if tyErr f.type≠0 then tyErr f.type
 else if(inferT C f.entity f.body).2≠0 then(inferT C f.entity f.body).2 else(sameT (inferT C f.entity f.body).1 f.type).2
theorem featureC_ok(hT:TimesC)(hO:OverC)(C:Cat)(f:Fea)(hs:f.body.size≤100000):Pure Tryz.prog 38 [.agg C.cells,.agg f.cells] (iv (feaErr C f)):=by
 have hI:=inferC_ok hT hO C f.entity f.body hs
 unfold feaErr
 generalize inferT C f.entity f.body=r at *
 refine Pure.runk (fun _=>0) Tryz.func38 comp38 era38 (Nat.le_of_ble_eq_true rfl) fun σ=> ?_
 repeat'(first|exact .nil|refine .k0 ?_|refine .k1 ?_|refine .k2 ?_|refine .k4 ?_|refine .k7 ?_|refine .k9 ?_|(refine .cd ?_ ?_<;>(intro hc;skip))|refine .r1 ?_ ?_|(refine .l1 ?_;intro b)|(refine .m1 ?_ ?_;intro b)|refine .an rfl (by intro hob;first|exact name_ok _|exact type_ok _|exact hI|exact sameC_ok _ _) ?_ ?_|fail)
 try any_goals(exact Zo)
 all_goals(try simp only[BL]at *)
 all_goals
  refine Sx.Fin.intro Zs (bi ?_)
  grind
def ownErr(f:Fea):Int:=if¬(Name f.name∧Name f.entity)∨f.version<1∨f.version>1099511627776 then 1 else if tyErr f.type≠0 then tyErr f.type else shape f.body
def ordErr(n:Nat)(p:Option Str)(s:Str):Prop:=match p with
 |none=>False
 |some q=>sLt s q=true∨(n<2∧s=q)
instance (n:Nat)(p:Option Str)(s:Str):Decidable (ordErr n p s):=by unfold ordErr;split<;>infer_instance
def verL(n:Nat):Option Str→List Fea→List (Str×Int)→Int×List (Str×Int)
 |_,[],vs=>(0,vs)
 |p,f::l,vs=>if ownErr f≠0 then(ownErr f,vs)else if ordErr n p f.name then(1,vs)else if hasV vs (f.name,f.version)=true then(121,vs)else verL n (some f.name) l (vs++[(f.name,f.version)])
def LL(C:Cat)(n:Nat):List Fea:=if n=0 then C.features else if n=1 then C.drafts else C.past
def verN(C:Cat):Nat→Nat→List (Str×Int)→Int
 |0,_,_=>0
 |k+1,n,vs=>if(verL n none (LL C n) vs).1≠0 then(verL n none (LL C n) vs).1 else verN C k (n+1) (verL n none (LL C n) vs).2
def verErr(C:Cat):Int:=verN C 3 0 []
def prevN(l:List Fea)(i:Nat):Option Str:=if i=0 then none else some (l.getD (i-1) default).name
theorem verL_drop(n:Nat){l:List Fea}{i:Nat}(hi:i<l.length)(vs:List (Str×Int)):verL n (prevN l i) (l.drop i) vs=
  if ownErr (l.getD i default)≠0 then(ownErr (l.getD i default),vs)else if ordErr n (prevN l i) (l.getD i default).name then(1,vs)else if hasV vs ((l.getD i default).name,(l.getD i default).version)=true then(121,vs)else verL n (prevN l (i+1)) (l.drop (i+1)) (vs++[((l.getD i default).name,(l.getD i default).version)]):=by
 have e:l.drop i=l.getD i default::l.drop (i+1):=by rw[getD_eq hi,List.getElem_cons_drop]
 rw[e,verL];rfl
theorem ord_iff{n:Nat}{l:List Fea}{i:Nat}{s:Str}(hi:i≤maxLen):(0<(i:Int)∧(Op.bytesLess (ByteArray.toList s) (ByteArray.toList (l.getD (IntKind.i64.wrap ((i:Int)-1)).toNat default).name)=true∨(n:Int)<2∧s=(l.getD (IntKind.i64.wrap ((i:Int)-1)).toNat default).name))↔ordErr n (prevN l i) s:=by
 unfold prevN
 by_cases h0:i=0
 ·subst h0;rw[if_pos rfl];unfold ordErr;simp
 ·rw[if_neg h0]
  have e:(IntKind.i64.wrap ((i:Int)-1)).toNat=i-1:=by unfold maxLen at hi;rw[i64w (by omega)];omega
  rw[e]
  unfold ordErr sLt
  simp only[]
  constructor
  ·rintro⟨_,h|⟨h,h'⟩⟩
   ·exact .inl h
   ·exact .inr ⟨by omega,h'⟩
  ·rintro(h|⟨h,h'⟩)
   ·exact⟨by omega,.inl h⟩
   ·exact⟨by omega,.inr ⟨by omega,h'⟩⟩
theorem versionsC_ok(C:Cat)(hz:∀ n,∀ f∈LL C n,f.body.size≤100000):Pure Tryz.prog 37 [.agg C.cells] (iv (verErr C)):=by
 refine Pure.runk (fun _=>0) Tryz.func37 comp37 era37 (Nat.le_of_ble_eq_true rfl) fun σ=> ?_
 repeat'(first|exact .nil|refine .k0 ?_|refine .k1 ?_|refine .k2 ?_|refine .k6 ?_|refine .r1 ?_ ?_|(refine .m1 ?_ ?_;intro b)|(refine .m3 ?_ ?_;intro hlen)|(refine .l3 ?_;intro b)|fail)
 all_goals(try simp only[BL]at *)
 ·show 3≤1000000;decide
 rename Nat=>b1
 refine WK_loop (fun m rg σ'=>∃ (n:Nat) (vs:List (Str×Int)),n≤3∧m=3-n∧verErr C=verN C (3-n) n vs∧σ'=(11,b1,.map (vE vs) vs.length)::σ∧rg=[(3,.mpt 11 b1),(18,.sl true 1 [[.sl false 18 (C.features.map Fea.cells)],[.sl false 18 (C.drafts.map Fea.cells)],[.sl false 18 (C.past.map Fea.cells)]]),(19,iv (3:Nat)),(20,iv n)]) 3 rfl ⟨_,_,Zr,.same (.cons (.refl _)),0,[],by omega,rfl,rfl,rfl,rfl⟩ ?_
 rintro m _ _ ⟨n,vs,hn,hm,hv,rfl,rfl⟩
 have hn4:n=0∨n=1∨n=2∨n=3:=by omega
 rcases hn4 with rfl|rfl|rfl|rfl
 ·have hv2:verErr C=if(verL 0 none C.features vs).1≠0 then(verL 0 none C.features vs).1 else verN C 2 (0+1) (verL 0 none C.features vs).2:=hv
  have hz2:∀ f∈C.features,f.body.size≤100000:=hz 0
  repeat'(first|exact .nil|refine .k0 ?_|refine .k1 ?_|refine .k2 ?_|refine .k6 ?_|refine .k7 ?_|refine .k8 ?_|refine .k9 ?_|(refine .cd ?_ ?_<;>(intro hc;skip))|refine .r1 ?_ ?_|(refine .m2 ?_ ?_;intro hlen)|refine .r8 ?_ ?_|fail)
  all_goals(try simp only[BL]at *)
  ·exact⟨trivial,by decide,by show _<((3:Nat):Int);decide⟩
  rotate_left
  ·exfalso;exact hc (by decide)
  refine WK_loop (fun m rg σ'=>∃ (i:Nat) (vs1:List (Str×Int)),i≤C.features.length∧m=C.features.length-i∧verL 0 none C.features vs=verL 0 (prevN C.features i) (C.features.drop i) vs1∧σ'=(11,b1,.map (vE vs1) vs1.length)::σ∧rg=[(3,.mpt 11 b1),(4,iv (0:Nat)),(5,.sl false 18 (C.features.map Fea.cells)),(18,.sl true 1 [[.sl false 18 (C.features.map Fea.cells)],[.sl false 18 (C.drafts.map Fea.cells)],[.sl false 18 (C.past.map Fea.cells)]]),(19,iv (3:Nat)),(20,iv (0:Nat)),(25,.sl false 18 (C.features.map Fea.cells)),(26,iv C.features.length),(27,iv i)]) C.features.length rfl ⟨_,_,Zr,Zs,0,vs,Nat.zero_le _,rfl,rfl,rfl,rfl⟩ ?_
  rintro m2 _ _ ⟨i,vs1,hi,hm2,hL,rfl,rfl⟩
  have hd:=fun(h:i<C.features.length)=>verL_drop 0 h vs1
  have hSh:=fun(h:i<C.features.length)=>shape_ok (C.features.getD i default).body (hz2 _ (getD_mem h))
  have hil:i≤maxLen:=by omega
  have hoi:=ord_iff (n:=0) (l:=C.features) (i:=i) (s:=(C.features.getD i default).name) hil
  have key:∀ e:Int,e≠0→verL 0 (prevN C.features i) (C.features.drop i) vs1=(e,vs1)→verErr C=e:=fun e h1 h2=>by
   rw[hv2,hL,h2,if_pos h1]
  repeat'(first|exact .nil|refine .k0 ?_|refine .k1 ?_|refine .k2 ?_|refine .k3 ?_|refine .k4 ?_|refine .k5 ?_|refine .k6 ?_|refine .k7 ?_|refine .k8 ?_|refine .k9 ?_|(refine .cd ?_ ?_<;>(intro hc;skip))|refine .r1 ?_ ?_|(refine .l1 ?_;intro b)|refine .t1 ?_ ?_ ?_|refine .an rfl (by intro hob;first|exact name_ok _|exact type_ok _|exact hSh (by(simp only[BL]at *;omega))) ?_ ?_|fail)
  try any_goals(exact Zo)
  all_goals(try simp only[BL]at *)
  ·have ho:ownErr (C.features.getD i default)=1:=if_pos (by grind)
   rw[key 1 (by decide) (by rw[hd (by omega),ho,if_pos (by decide)])]
   exact Zw
  ·have ho:ownErr (C.features.getD i default)=tyErr (C.features.getD i default).type:=(if_neg (by grind)).trans (if_pos hc)
   rw[key _ hc (by rw[hd (by omega),ho,if_pos hc])]
   exact Zw
  ·have ho:ownErr (C.features.getD i default)=shape (C.features.getD i default).body:=(if_neg (by grind)).trans (if_neg (by grind))
   rw[key _ hc (by rw[hd (by omega),ho,if_pos hc])]
   exact Zw
  ·have ho:ownErr (C.features.getD i default)=0:=(if_neg (by grind)).trans ((if_neg (by grind)).trans (by grind))
   rw[key 1 (by decide) (by rw[hd (by omega),ho,if_neg (by decide),if_pos (hoi.1 hc)])]
   exact Zw
  ·have ho:ownErr (C.features.getD i default)=0:=(if_neg (by grind)).trans ((if_neg (by grind)).trans (by grind))
   have hor:¬ordErr 0 (prevN C.features i) (C.features.getD i default).name:=fun h=>by
    have h2:=hoi.2 h
    rcases hc with hc|⟨hc1,hc2⟩
    ·exact hc h2.1
    ·rcases h2.2 with h3|h3
     ·rw[hc1]at h3;cases h3
     ·rcases hc2 with h4|h4
      ·exact h4 h3.1
      ·exact h4 h3.2
   refine VX_lkv (p:=((C.features.getD i default).name,(C.features.getD i default).version)) rfl rfl rfl OB.nil ?_
   repeat'(first|exact .nil|refine .k0 ?_|refine .k1 ?_|refine .k2 ?_|refine .k7 ?_|refine .k9 ?_|(refine .cd ?_ ?_<;>(intro hc;skip))|refine .r1 ?_ ?_|fail)
   all_goals(try simp only[BL]at *)
   ·rw[key 121 (by decide) (by rw[hd (by omega),ho,if_neg (by decide),if_neg hor,if_pos hc])]
    exact Zw
   ·refine VX_upv (p:=((C.features.getD i default).name,(C.features.getD i default).version)) rfl rfl rfl hc rfl OB.nil ?_
    repeat'(first|exact .nil|refine .k0 ?_|refine .k1 ?_|refine .k2 ?_|refine .r1 ?_ ?_|fail)
    all_goals(try simp only[BL]at *)
    refine⟨m2-1,by omega,_,_,Zr,Zs,i+1,_,by omega,by omega,?_,rfl,by rw[up1 (n:=C.features.length) (by omega) (by assumption)]⟩
    rw[hL,hd (by omega),ho,if_neg (by decide),if_neg hor,if_neg (by rw[hc];decide)]
  ·intro h;unfold maxLen at hil;rw[i64w (by omega)];omega
  ·intro h;unfold maxLen at hil;rw[i64w (by omega)];omega
  ·have hil2:i=C.features.length:=by omega
   subst hil2
   rw[List.drop_length,verL]at hL
   refine⟨2-0,by omega,_,_,Zr,Zs,0+1,vs1,by omega,by omega,?_,rfl,by rw[up1 (n:=5) (by omega) (by decide)]⟩
   rw[hv2,hL,if_neg (by simp)]
 ·have hv2:verErr C=if(verL 1 none C.drafts vs).1≠0 then(verL 1 none C.drafts vs).1 else verN C 1 (1+1) (verL 1 none C.drafts vs).2:=hv
  have hz2:∀ f∈C.drafts,f.body.size≤100000:=hz 1
  repeat'(first|exact .nil|refine .k0 ?_|refine .k1 ?_|refine .k2 ?_|refine .k6 ?_|refine .k7 ?_|refine .k8 ?_|refine .k9 ?_|(refine .cd ?_ ?_<;>(intro hc;skip))|refine .r1 ?_ ?_|(refine .m2 ?_ ?_;intro hlen)|refine .r8 ?_ ?_|fail)
  all_goals(try simp only[BL]at *)
  ·exact⟨trivial,by decide,by show _<((3:Nat):Int);decide⟩
  rotate_left
  ·exfalso;exact hc (by decide)
  refine WK_loop (fun m rg σ'=>∃ (i:Nat) (vs1:List (Str×Int)),i≤C.drafts.length∧m=C.drafts.length-i∧verL 1 none C.drafts vs=verL 1 (prevN C.drafts i) (C.drafts.drop i) vs1∧σ'=(11,b1,.map (vE vs1) vs1.length)::σ∧rg=[(3,.mpt 11 b1),(4,iv (1:Nat)),(5,.sl false 18 (C.drafts.map Fea.cells)),(18,.sl true 1 [[.sl false 18 (C.features.map Fea.cells)],[.sl false 18 (C.drafts.map Fea.cells)],[.sl false 18 (C.past.map Fea.cells)]]),(19,iv (3:Nat)),(20,iv (1:Nat)),(25,.sl false 18 (C.drafts.map Fea.cells)),(26,iv C.drafts.length),(27,iv i)]) C.drafts.length rfl ⟨_,_,Zr,Zs,0,vs,Nat.zero_le _,rfl,rfl,rfl,rfl⟩ ?_
  rintro m2 _ _ ⟨i,vs1,hi,hm2,hL,rfl,rfl⟩
  have hd:=fun(h:i<C.drafts.length)=>verL_drop 1 h vs1
  have hSh:=fun(h:i<C.drafts.length)=>shape_ok (C.drafts.getD i default).body (hz2 _ (getD_mem h))
  have hil:i≤maxLen:=by omega
  have hoi:=ord_iff (n:=1) (l:=C.drafts) (i:=i) (s:=(C.drafts.getD i default).name) hil
  have key:∀ e:Int,e≠0→verL 1 (prevN C.drafts i) (C.drafts.drop i) vs1=(e,vs1)→verErr C=e:=fun e h1 h2=>by
   rw[hv2,hL,h2,if_pos h1]
  repeat'(first|exact .nil|refine .k0 ?_|refine .k1 ?_|refine .k2 ?_|refine .k3 ?_|refine .k4 ?_|refine .k5 ?_|refine .k6 ?_|refine .k7 ?_|refine .k8 ?_|refine .k9 ?_|(refine .cd ?_ ?_<;>(intro hc;skip))|refine .r1 ?_ ?_|(refine .l1 ?_;intro b)|refine .t1 ?_ ?_ ?_|refine .an rfl (by intro hob;first|exact name_ok _|exact type_ok _|exact hSh (by(simp only[BL]at *;omega))) ?_ ?_|fail)
  try any_goals(exact Zo)
  all_goals(try simp only[BL]at *)
  ·have ho:ownErr (C.drafts.getD i default)=1:=if_pos (by grind)
   rw[key 1 (by decide) (by rw[hd (by omega),ho,if_pos (by decide)])]
   exact Zw
  ·have ho:ownErr (C.drafts.getD i default)=tyErr (C.drafts.getD i default).type:=(if_neg (by grind)).trans (if_pos hc)
   rw[key _ hc (by rw[hd (by omega),ho,if_pos hc])]
   exact Zw
  ·have ho:ownErr (C.drafts.getD i default)=shape (C.drafts.getD i default).body:=(if_neg (by grind)).trans (if_neg (by grind))
   rw[key _ hc (by rw[hd (by omega),ho,if_pos hc])]
   exact Zw
  ·have ho:ownErr (C.drafts.getD i default)=0:=(if_neg (by grind)).trans ((if_neg (by grind)).trans (by grind))
   rw[key 1 (by decide) (by rw[hd (by omega),ho,if_neg (by decide),if_pos (hoi.1 hc)])]
   exact Zw
  ·have ho:ownErr (C.drafts.getD i default)=0:=(if_neg (by grind)).trans ((if_neg (by grind)).trans (by grind))
   have hor:¬ordErr 1 (prevN C.drafts i) (C.drafts.getD i default).name:=fun h=>by
    have h2:=hoi.2 h
    rcases hc with hc|⟨hc1,hc2⟩
    ·exact hc h2.1
    ·rcases h2.2 with h3|h3
     ·rw[hc1]at h3;cases h3
     ·rcases hc2 with h4|h4
      ·exact h4 h3.1
      ·exact h4 h3.2
   refine VX_lkv (p:=((C.drafts.getD i default).name,(C.drafts.getD i default).version)) rfl rfl rfl OB.nil ?_
   repeat'(first|exact .nil|refine .k0 ?_|refine .k1 ?_|refine .k2 ?_|refine .k7 ?_|refine .k9 ?_|(refine .cd ?_ ?_<;>(intro hc;skip))|refine .r1 ?_ ?_|fail)
   all_goals(try simp only[BL]at *)
   ·rw[key 121 (by decide) (by rw[hd (by omega),ho,if_neg (by decide),if_neg hor,if_pos hc])]
    exact Zw
   ·refine VX_upv (p:=((C.drafts.getD i default).name,(C.drafts.getD i default).version)) rfl rfl rfl hc rfl OB.nil ?_
    repeat'(first|exact .nil|refine .k0 ?_|refine .k1 ?_|refine .k2 ?_|refine .r1 ?_ ?_|fail)
    all_goals(try simp only[BL]at *)
    refine⟨m2-1,by omega,_,_,Zr,Zs,i+1,_,by omega,by omega,?_,rfl,by rw[up1 (n:=C.drafts.length) (by omega) (by assumption)]⟩
    rw[hL,hd (by omega),ho,if_neg (by decide),if_neg hor,if_neg (by rw[hc];decide)]
  ·intro h;unfold maxLen at hil;rw[i64w (by omega)];omega
  ·intro h;unfold maxLen at hil;rw[i64w (by omega)];omega
  ·have hil2:i=C.drafts.length:=by omega
   subst hil2
   rw[List.drop_length,verL]at hL
   refine⟨2-1,by omega,_,_,Zr,Zs,1+1,vs1,by omega,by omega,?_,rfl,by rw[up1 (n:=5) (by omega) (by decide)]⟩
   rw[hv2,hL,if_neg (by simp)]
 ·have hv2:verErr C=if(verL 2 none C.past vs).1≠0 then(verL 2 none C.past vs).1 else verN C 0 (2+1) (verL 2 none C.past vs).2:=hv
  have hz2:∀ f∈C.past,f.body.size≤100000:=hz 2
  repeat'(first|exact .nil|refine .k0 ?_|refine .k1 ?_|refine .k2 ?_|refine .k6 ?_|refine .k7 ?_|refine .k8 ?_|refine .k9 ?_|(refine .cd ?_ ?_<;>(intro hc;skip))|refine .r1 ?_ ?_|(refine .m2 ?_ ?_;intro hlen)|refine .r8 ?_ ?_|fail)
  all_goals(try simp only[BL]at *)
  ·exact⟨trivial,by decide,by show _<((3:Nat):Int);decide⟩
  rotate_left
  ·exfalso;exact hc (by decide)
  refine WK_loop (fun m rg σ'=>∃ (i:Nat) (vs1:List (Str×Int)),i≤C.past.length∧m=C.past.length-i∧verL 2 none C.past vs=verL 2 (prevN C.past i) (C.past.drop i) vs1∧σ'=(11,b1,.map (vE vs1) vs1.length)::σ∧rg=[(3,.mpt 11 b1),(4,iv (2:Nat)),(5,.sl false 18 (C.past.map Fea.cells)),(18,.sl true 1 [[.sl false 18 (C.features.map Fea.cells)],[.sl false 18 (C.drafts.map Fea.cells)],[.sl false 18 (C.past.map Fea.cells)]]),(19,iv (3:Nat)),(20,iv (2:Nat)),(25,.sl false 18 (C.past.map Fea.cells)),(26,iv C.past.length),(27,iv i)]) C.past.length rfl ⟨_,_,Zr,Zs,0,vs,Nat.zero_le _,rfl,rfl,rfl,rfl⟩ ?_
  rintro m2 _ _ ⟨i,vs1,hi,hm2,hL,rfl,rfl⟩
  have hd:=fun(h:i<C.past.length)=>verL_drop 2 h vs1
  have hSh:=fun(h:i<C.past.length)=>shape_ok (C.past.getD i default).body (hz2 _ (getD_mem h))
  have hil:i≤maxLen:=by omega
  have hoi:=ord_iff (n:=2) (l:=C.past) (i:=i) (s:=(C.past.getD i default).name) hil
  have key:∀ e:Int,e≠0→verL 2 (prevN C.past i) (C.past.drop i) vs1=(e,vs1)→verErr C=e:=fun e h1 h2=>by
   rw[hv2,hL,h2,if_pos h1]
  repeat'(first|exact .nil|refine .k0 ?_|refine .k1 ?_|refine .k2 ?_|refine .k3 ?_|refine .k4 ?_|refine .k5 ?_|refine .k6 ?_|refine .k7 ?_|refine .k8 ?_|refine .k9 ?_|(refine .cd ?_ ?_<;>(intro hc;skip))|refine .r1 ?_ ?_|(refine .l1 ?_;intro b)|refine .t1 ?_ ?_ ?_|refine .an rfl (by intro hob;first|exact name_ok _|exact type_ok _|exact hSh (by(simp only[BL]at *;omega))) ?_ ?_|fail)
  try any_goals(exact Zo)
  all_goals(try simp only[BL]at *)
  ·have ho:ownErr (C.past.getD i default)=1:=if_pos (by grind)
   rw[key 1 (by decide) (by rw[hd (by omega),ho,if_pos (by decide)])]
   exact Zw
  ·have ho:ownErr (C.past.getD i default)=tyErr (C.past.getD i default).type:=(if_neg (by grind)).trans (if_pos hc)
   rw[key _ hc (by rw[hd (by omega),ho,if_pos hc])]
   exact Zw
  ·have ho:ownErr (C.past.getD i default)=shape (C.past.getD i default).body:=(if_neg (by grind)).trans (if_neg (by grind))
   rw[key _ hc (by rw[hd (by omega),ho,if_pos hc])]
   exact Zw
  ·have ho:ownErr (C.past.getD i default)=0:=(if_neg (by grind)).trans ((if_neg (by grind)).trans (by grind))
   rw[key 1 (by decide) (by rw[hd (by omega),ho,if_neg (by decide),if_pos (hoi.1 hc)])]
   exact Zw
  ·have ho:ownErr (C.past.getD i default)=0:=(if_neg (by grind)).trans ((if_neg (by grind)).trans (by grind))
   have hor:¬ordErr 2 (prevN C.past i) (C.past.getD i default).name:=fun h=>by
    have h2:=hoi.2 h
    rcases hc with hc|⟨hc1,hc2⟩
    ·exact hc h2.1
    ·rcases h2.2 with h3|h3
     ·rw[hc1]at h3;cases h3
     ·rcases hc2 with h4|h4
      ·exact h4 h3.1
      ·exact h4 h3.2
   refine VX_lkv (p:=((C.past.getD i default).name,(C.past.getD i default).version)) rfl rfl rfl OB.nil ?_
   repeat'(first|exact .nil|refine .k0 ?_|refine .k1 ?_|refine .k2 ?_|refine .k7 ?_|refine .k9 ?_|(refine .cd ?_ ?_<;>(intro hc;skip))|refine .r1 ?_ ?_|fail)
   all_goals(try simp only[BL]at *)
   ·rw[key 121 (by decide) (by rw[hd (by omega),ho,if_neg (by decide),if_neg hor,if_pos hc])]
    exact Zw
   ·refine VX_upv (p:=((C.past.getD i default).name,(C.past.getD i default).version)) rfl rfl rfl hc rfl OB.nil ?_
    repeat'(first|exact .nil|refine .k0 ?_|refine .k1 ?_|refine .k2 ?_|refine .r1 ?_ ?_|fail)
    all_goals(try simp only[BL]at *)
    refine⟨m2-1,by omega,_,_,Zr,Zs,i+1,_,by omega,by omega,?_,rfl,by rw[up1 (n:=C.past.length) (by omega) (by assumption)]⟩
    rw[hL,hd (by omega),ho,if_neg (by decide),if_neg hor,if_neg (by rw[hc];decide)]
  ·intro h;unfold maxLen at hil;rw[i64w (by omega)];omega
  ·have hil2:i=C.past.length:=by omega
   subst hil2
   rw[List.drop_length,verL]at hL
   refine⟨2-2,by omega,_,_,Zr,Zs,2+1,vs1,by omega,by omega,?_,rfl,by rw[up1 (n:=5) (by omega) (by decide)]⟩
   rw[hv2,hL,if_neg (by simp)]
 ·repeat'(first|exact .nil|refine .k0 ?_|refine .k1 ?_|refine .k2 ?_|refine .k6 ?_|refine .k7 ?_|refine .k8 ?_|refine .k9 ?_|(refine .cd ?_ ?_<;>(intro hc;skip))|refine .r1 ?_ ?_|refine .r8 ?_ ?_|fail)
  all_goals(try simp only[BL]at *)
  all_goals first|(exfalso;exact absurd hc (by decide))|skip
  rw[hv]
  exact Zw
def tabsL:Option Str→List Tab→Int
 |_,[]=>0
 |p,t::l=>if tabErr t≠0 then tabErr t else if ordErr 0 p t.name then 1 else tabsL (some t.name) l
def feasL(C:Cat):List Fea→Int
 |[]=>0
 |f::l=>if feaErr C f≠0 then feaErr C f else feasL C l
open Classical in
noncomputable def catErr(C:Cat):Int:=
 if C.tables.length>16∨C.features.length>32∨C.drafts.length>32∨C.past.length>32 then 2
 else if tabsL none C.tables≠0 then tabsL none C.tables
 else if verErr C≠0 then verErr C
 else if feasL C C.features≠0 then feasL C C.features
 else if cycL (deps C.features) (namesF C.features)≠[]then 120 else 0
def prevT(l:List Tab)(i:Nat):Option Str:=if i=0 then none else some (l.getD (i-1) default).name
theorem ordT_iff{l:List Tab}{i:Nat}{s:Str}(hi:i≤maxLen):(0<(i:Int)∧(Op.bytesLess (ByteArray.toList s) (ByteArray.toList (l.getD (IntKind.i64.wrap ((i:Int)-1)).toNat default).name)=true∨s=(l.getD (IntKind.i64.wrap ((i:Int)-1)).toNat default).name))↔ordErr 0 (prevT l i) s:=by
 unfold prevT
 by_cases h0:i=0
 ·subst h0;rw[if_pos rfl];unfold ordErr;simp
 ·rw[if_neg h0]
  have e:(IntKind.i64.wrap ((i:Int)-1)).toNat=i-1:=by unfold maxLen at hi;rw[i64w (by omega)];omega
  rw[e]
  unfold ordErr sLt
  simp only[]
  constructor
  ·rintro⟨_,h|h'⟩
   ·exact .inl h
   ·exact .inr ⟨by omega,h'⟩
  ·rintro(h|⟨h,h'⟩)
   ·exact⟨by omega,.inl h⟩
   ·exact⟨by omega,.inr h'⟩
theorem tabsL_drop{l:List Tab}{i:Nat}(hi:i<l.length):tabsL (prevT l i) (l.drop i)=if tabErr (l.getD i default)≠0 then tabErr (l.getD i default)else if ordErr 0 (prevT l i) (l.getD i default).name then 1 else tabsL (prevT l (i+1)) (l.drop (i+1)):=by
 have e:l.drop i=l.getD i default::l.drop (i+1):=by rw[getD_eq hi,List.getElem_cons_drop]
 rw[e,tabsL];rfl
theorem feasL_drop(C:Cat){l:List Fea}{i:Nat}(hi:i<l.length):feasL C (l.drop i)=if feaErr C (l.getD i default)≠0 then feaErr C (l.getD i default)else feasL C (l.drop (i+1)):=by
 have e:l.drop i=l.getD i default::l.drop (i+1):=by rw[getD_eq hi,List.getElem_cons_drop]
 rw[e,feasL]
theorem sizeL_mem:∀ {l:List Ex} {x:Ex},x∈l→x.size≤Ex.sizeL l
 |y::l,x,h=>by
  rw[Ex.sizeL]
  rcases List.mem_cons.1 h with rfl|h
  ·omega
  ·have:=sizeL_mem h;omega
theorem all_size{C:Cat}(hs:Small C){f:Fea}(hf:f∈C.all):f.body.size≤2000:=by
 have h1:=szL_size (C.all.map Fea.body) 2000 0 hs.n
 have h2:=hs.n
 have h3:=sizeL_mem (List.mem_map_of_mem (f:=Fea.body) hf)
 omega
theorem LL_all{C:Cat}{n:Nat}{f:Fea}(hf:f∈LL C n):f∈C.all:=by
 unfold LL at hf;unfold Cat.all
 split at hf
 ·exact List.mem_append_left _ (List.mem_append_left _ hf)
 ·split at hf
  ·exact List.mem_append_left _ (List.mem_append_right _ hf)
  ·exact List.mem_append_right _ hf
theorem checkC_ok(hT:TimesC)(hO:OverC)(C:Cat)(hs:Small C)(hc0:C.Fits):Pure Tryz.prog 11 [.agg C.cells] (iv (catErr C)):=by
 have hV:=versionsC_ok C (fun n f hf=>by have:=all_size hs (LL_all hf);omega)
 have hF0:=fun(i:Nat) (h:i<C.features.length)=>featureC_ok hT hO C (C.features.getD i default) (Nat.le_trans (all_size hs (LL_all (n:=0) (show C.features.getD i default∈LL C 0 from getD_mem h))) (by decide))
 have hY:=cycle_ok C (cfit hs hc0)
 unfold catErr
 generalize cycL (deps C.features) (namesF C.features)=Y at *
 generalize verErr C=ve at *
 refine Pure.runk (fun _=>0) Tryz.func11 comp11 era11 (Nat.le_of_ble_eq_true rfl) fun σ=> ?_
 repeat'(first|exact .nil|refine .k0 ?_|refine .k1 ?_|refine .k2 ?_|refine .k4 ?_|refine .k6 ?_|refine .k7 ?_|refine .k9 ?_|(refine .cd ?_ ?_<;>(intro hc;skip))|refine .r1 ?_ ?_|(refine .m1 ?_ ?_;intro b)|(refine .m2 ?_ ?_;intro hlen)|fail)
 try any_goals(exact Zo)
 all_goals(try simp only[BL]at *)
 ·rw[if_pos (by omega)];exact Zw
 rw[if_neg (by omega)]
 rename Nat=>b1
 refine WK_loop (fun m rg σ'=>∃ i:Nat,i≤C.tables.length∧m=C.tables.length-i∧tabsL none C.tables=tabsL (prevT C.tables i) (C.tables.drop i)∧σ'=(1,b1,.cells C.cells)::σ∧rg=[(1,.lp 1 b1 0),(33,.sl false 4 (C.tables.map Tab.cells)),(34,iv C.tables.length),(35,iv i)]) C.tables.length rfl ⟨_,_,Zr,Zs,0,Nat.zero_le _,rfl,rfl,rfl,rfl⟩ ?_
 rintro m _ _ ⟨i,hi,hm,hL,rfl,rfl⟩
 have hil:i≤maxLen:=by unfold maxLen;have:=hs.t;omega
 have hoi:=ordT_iff (l:=C.tables) (i:=i) (s:=(C.tables.getD i default).name) hil
 repeat'(first|exact .nil|refine .k0 ?_|refine .k1 ?_|refine .k2 ?_|refine .k3 ?_|refine .k4 ?_|refine .k5 ?_|refine .k6 ?_|refine .k7 ?_|refine .k8 ?_|refine .k9 ?_|(refine .cd ?_ ?_<;>(intro hc;skip))|refine .r1 ?_ ?_|(refine .l1 ?_;intro b)|(refine .m2 ?_ ?_;intro hlen)|refine .t1 ?_ ?_ ?_|refine .an rfl (by intro hob;first|exact table_ok _|exact hV|fail) ?_ ?_|fail)
 try any_goals(exact Zo)
 all_goals(try simp only[BL]at *)
 ·rw[show tabsL none C.tables=tabErr (C.tables.getD i default) by rw[hL,tabsL_drop (by omega),if_pos hc],if_pos hc];exact Zw
 ·rw[show tabsL none C.tables=1 by rw[hL,tabsL_drop (by omega),if_neg (by grind),if_pos (hoi.1 hc)],if_pos (by decide)];exact Zw
 ·have hor:¬ordErr 0 (prevT C.tables i) (C.tables.getD i default).name:=fun h=>by
   have h2:=hoi.2 h
   rcases hc with hc|⟨hc1,hc2⟩
   ·exact hc h2.1
   ·rcases h2.2 with h3|h3
    ·rw[hc1]at h3;cases h3
    ·exact hc2 h3
  exact⟨m-1,by omega,_,_,Zr,Zs,i+1,by omega,by omega,by rw[hL,tabsL_drop (by omega),if_neg (by grind),if_neg hor],rfl,by rw[up1 (n:=C.tables.length) (by omega) (by assumption)]⟩
 ·intro h;unfold maxLen at hil;rw[i64w (by omega)];omega
 ·have h0:tabsL none C.tables=0:=by rw[hL,show i=C.tables.length by omega,List.drop_length,tabsL]
  rw[h0,if_neg (by simp),if_pos hc];exact Zw
 have h0:tabsL none C.tables=0:=by rw[hL,show i=C.tables.length by omega,List.drop_length,tabsL]
 rw[h0,if_neg (by simp),if_neg (by grind)]
 clear hoi hil hL hm hi
 refine WK_loop (fun m rg σ'=>∃ i:Nat,i≤C.features.length∧m=C.features.length-i∧feasL C C.features=feasL C (C.features.drop i)∧σ'=(1,b1,.cells C.cells)::σ∧rg=[(1,.lp 1 b1 0),(66,.sl false 18 (C.features.map Fea.cells)),(67,iv C.features.length),(68,iv i)]) C.features.length rfl ⟨_,_,Zr,Zs,0,Nat.zero_le _,rfl,rfl,rfl,rfl⟩ ?_
 rintro m _ _ ⟨i,hi,hm,hL,rfl,rfl⟩
 have hF:=hF0 i
 have hY1:Y.length=0↔Y=[]:=List.length_eq_zero_iff
 repeat'(first|exact .nil|refine .k0 ?_|refine .k1 ?_|refine .k2 ?_|refine .k6 ?_|refine .k7 ?_|refine .k8 ?_|refine .k9 ?_|(refine .cd ?_ ?_<;>(intro hc;skip))|refine .r1 ?_ ?_|(refine .l1 ?_;intro b)|(refine .m2 ?_ ?_;intro hlen)|refine .t1 ?_ ?_ ?_|refine .an rfl (by intro hob;first|exact hF (by(simp only[BL]at *;omega))|exact hY) ?_ ?_|fail)
 try any_goals(exact Zo)
 all_goals(try simp only[BL]at *)
 ·rw[show feasL C C.features=feaErr C (C.features.getD i default) by rw[hL,feasL_drop C (by omega),if_pos hc],if_pos hc];exact Zw
 ·exact⟨m-1,by omega,_,_,Zr,Zs,i+1,by omega,by omega,by rw[hL,feasL_drop C (by omega),if_neg (by grind)],rfl,by rw[up1 (n:=C.features.length) (by omega) (by assumption)]⟩
 all_goals have h1:feasL C C.features=0:=by rw[hL,show i=C.features.length by omega,List.drop_length,feasL]
 all_goals rw[h1,if_neg (by simp)]
 ·rw[if_pos (fun h=>by subst h;simp at hc)];exact Zw
 ·rw[if_neg (fun h=>h (hY1.1 (by omega)))];exact Zw
end Go.Proofs.YtekngilbecjkhaaGreatDoor
