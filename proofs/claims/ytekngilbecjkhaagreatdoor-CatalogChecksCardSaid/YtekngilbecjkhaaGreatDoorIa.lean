/- The reference of the checker: types by name. -/
import Derived.Test.YtekngilbecjkhaaGreatDoorHa
import Derived.Test.YtekngilbecjkhaaGreatDoorGa
set_option linter.unusedSimpArgs false
set_option linter.unusedVariables false
set_option maxRecDepth 100000
set_option maxHeartbeats 4000000
namespace Go.Proofs.YtekngilbecjkhaaGreatDoor
open Go.Sx Go.Proofs Go.Tb
theorem findP_at{α:Type}[Inhabited α]{p:α→Bool}{l:List α}{i:Nat}(hi:i<l.length)(h:∀ j,j<i→p (l.getD j default)=false)(hn:p (l.getD i default)=true):l.find? p=some (l.getD i default):=by
 rw[getD_eq hi]at hn ⊢
 rw[List.find?_eq_some_iff_getElem]
 refine⟨hn,i,hi,rfl,fun j hj=> ?_⟩
 have:=h j hj
 rw[getD_eq (Nat.lt_trans hj hi)]at this
 simpa using this
theorem findP_none{α:Type}[Inhabited α]{p:α→Bool}{l:List α}(h:∀ j,j<l.length→p (l.getD j default)=false):l.find? p=none:=by
 rw[List.find?_eq_none]
 intro x hx
 obtain⟨j,hj,rfl⟩:=List.getElem_of_mem hx
 have:=h j hj
 rw[getD_eq hj]at this
 simpa using this
abbrev scR(c:Cat)(ent:Str)(t:Tab):List AV:=[.sl false 4 (c.tables.map Tab.cells),.sl false 18 (c.features.map Fea.cells),.sl false 18 (c.drafts.map Fea.cells),.sl false 18 (c.past.map Fea.cells),sv ent,sv t.name,sv t.entity,.sl false 4 (t.fields.map Fld.cells),iv t.keep]
abbrev tyB:List AV:=[iv 0,nilA,sv s0]
abbrev zsR:List AV:=[nilA,nilA,nilA,nilA,sv s0,sv s0,sv s0,nilA,iv 0]
def bothE(a b:Ty):Int:=if a.kind≠b.kind∨a.of≠b.of then 5 else if a.unit≠b.unit then 70 else 0
theorem bothR_ok(x y:Ty):Pure Tryz.prog 72 [.agg x.cells,.agg y.cells] (iv (bothE x y)):=by
 refine Pure.runk (fun _=>0) Tryz.func72 comp72 era72 (Nat.le_of_ble_eq_true rfl) fun σ=> ?_
 repeat'(first|exact .nil|refine .k0 ?_|refine .k1 ?_|refine .k2 ?_|refine .k4 ?_|refine .k7 ?_|refine .k9 ?_|(refine .cd ?_ ?_<;>(intro hc;skip))|refine .r1 ?_ ?_|(refine .m1 ?_ ?_;intro b)|refine .an rfl (by intro hob;exact same_ok _ _) ?_ ?_|fail)
 try any_goals(exact Zo)
 all_goals(try simp only[BL]at *)
 ·rw[show bothE x y=5 from if_pos hc];exact Zw
 ·rw[show bothE x y=70 from(if_neg (by grind)).trans (if_pos hc)];exact Zw
 ·rw[show bothE x y=0 from(if_neg (by grind)).trans (if_neg (by grind))];exact Zw
theorem sameTyR_ok(x y:Ty):Pure Tryz.prog 172 [.agg x.cells,.agg y.cells] (.v (.bool (decide (x.kind=y.kind∧x.unit=y.unit∧x.of=y.of)))):=by
 refine Pure.runk (fun _=>0) Tryz.func172 comp172 era172 (Nat.le_of_ble_eq_true rfl) fun σ=> ?_
 repeat'(first|exact .nil|refine .k0 ?_|refine .k1 ?_|refine .k2 ?_|refine .k4 ?_|refine .k7 ?_|refine .r1 ?_ ?_|(refine .m1 ?_ ?_;intro b)|refine .an rfl (by intro hob;exact same_ok _ _) ?_ ?_|fail)
 all_goals(try simp only[BL]at *)
 rw[show(decide (x.kind=y.kind∧x.unit=y.unit∧x.of=y.of))=(decide (x.kind=y.kind) && decide (x.unit=y.unit) && decide (x.of=y.of)) by grind]
 exact Zw
theorem fieldR_ok(c:Cat)(e0:Str)(t:Tab)(n:Str):Pure Tryz.prog 156 [.agg (scR c e0 t),sv n] (tyA (fldT t.fields n)):=by
 refine Pure.runk (fun _=>0) Tryz.func156 comp156 era156 (Nat.le_of_ble_eq_true rfl) fun σ=> ?_
 repeat'(first|exact .nil|refine .k0 ?_|refine .k1 ?_|refine .k2 ?_|refine .k6 ?_|refine .r1 ?_ ?_|(refine .l1 ?_;intro b)|(refine .m1 ?_ ?_;intro b)|fail)
 all_goals(try simp only[BL]at *)
 rename_i b2
 refine WK_loop (fun m rg σ'=>∃ i:Nat,i≤t.fields.length∧m=t.fields.length-i∧(∀ j,j<i→¬(t.fields.getD j default).name=n)∧σ'=(4,b,Blk.cells tyB)::(2,b2,Blk.cells (scR c e0 t))::σ∧rg=[(1,sv n),(2,.lp 2 b2 0),(4,.lp 4 b 0),(6,iv i)]) t.fields.length rfl ⟨_,_,Zr,Zs,0,Nat.zero_le _,rfl,fun j hj=>absurd hj (by omega),rfl,rfl⟩ ?_
 rintro m _ _ ⟨i,hi,hm,hp,rfl,rfl⟩
 repeat'(first|exact .nil|refine .k0 ?_|refine .k1 ?_|refine .k2 ?_|refine .k6 ?_|refine .k7 ?_|refine .k8 ?_|refine .k9 ?_|(refine .cd ?_ ?_<;>(intro hc;skip))|refine .r1 ?_ ?_|(refine .m2 ?_ ?_;intro hlen)|refine .t1 ?_ ?_ ?_|fail)
 try any_goals(exact Zo)
 all_goals(try simp only[BL]at *)
 ·rw[show fldT t.fields n=((t.fields.getD i default).type,0) by unfold fldT findFl;rw[findP_at (p:=fun f:Fld=>decide (f.name=n)) (by omega) (fun j hj=>decide_eq_false (hp j hj)) (decide_eq_true hc)]];exact Zw
 ·exact⟨m-1,by omega,_,_,Zr,Zs,i+1,by omega,by omega,cons_lt hp hc,rfl,by rw[up1 (n:=t.fields.length) (by omega) (by assumption)]⟩
 ·rw[show fldT t.fields n=(tyZ,4) by unfold fldT findFl;rw[findP_none (p:=fun f:Fld=>decide (f.name=n)) fun j hj=>decide_eq_false (hp j (by omega))]];exact Zw
theorem featR10_ok(c:Cat)(e0:Str)(t:Tab)(n ent:Str):Pure Tryz.prog 157 [.agg (scR c e0 t),sv n,sv ent] (tyA (namedT c.features n ent)):=by
 refine Pure.runk (fun _=>0) Tryz.func157 comp157 era157 (Nat.le_of_ble_eq_true rfl) fun σ=> ?_
 repeat'(first|exact .nil|refine .k0 ?_|refine .k1 ?_|refine .k2 ?_|refine .k6 ?_|refine .r1 ?_ ?_|(refine .l1 ?_;intro b)|(refine .m1 ?_ ?_;intro b)|fail)
 all_goals(try simp only[BL]at *)
 rename_i b2
 refine WK_loop (fun m rg σ'=>∃ i:Nat,i≤c.features.length∧m=c.features.length-i∧(∀ j,j<i→¬(c.features.getD j default).name=n)∧σ'=(6,b,Blk.cells tyB)::(3,b2,Blk.cells (scR c e0 t))::σ∧rg=[(1,sv n),(2,sv ent),(3,.lp 3 b2 0),(6,.lp 6 b 0),(8,iv i)]) c.features.length rfl ⟨_,_,Zr,Zs,0,Nat.zero_le _,rfl,fun j hj=>absurd hj (by omega),rfl,rfl⟩ ?_
 rintro m _ _ ⟨i,hi,hm,hp,rfl,rfl⟩
 have hF:i<c.features.length→(c.features.getD i default).name=n→namedT c.features n ent=if(c.features.getD i default).entity=ent then((c.features.getD i default).type,0)else(tyZ,5):=fun h hn=>by
  unfold namedT;rw[findF_first h hn hp]
 repeat'(first|exact .nil|refine .k0 ?_|refine .k1 ?_|refine .k2 ?_|refine .k6 ?_|refine .k7 ?_|refine .k8 ?_|refine .k9 ?_|(refine .cd ?_ ?_<;>(intro hc;skip))|refine .r1 ?_ ?_|(refine .l1 ?_;intro b)|(refine .m2 ?_ ?_;intro hlen)|refine .t1 ?_ ?_ ?_|fail)
 try any_goals(exact Zo)
 all_goals(try simp only[BL]at *)
 ·exact⟨m-1,by omega,_,_,Zr,Zs,i+1,by omega,by omega,cons_lt hp hc,rfl,by rw[up1 (n:=c.features.length) (by omega) (by assumption)]⟩
 ·rw[hF (by omega) (by assumption),if_neg hc];exact Zw
 ·rw[hF (by omega) (by assumption),if_pos hc];exact Zw
 ·rw[show namedT c.features n ent=(tyZ,4) by unfold namedT findF;rw[findP_none (p:=fun f:Fea=>decide (f.name=n)) fun j hj=>decide_eq_false (hp j (by omega))]];exact Zw
def wiR(c:Cat)(e0:Str):Option Tab→AV
 |none=> .tup [.agg zsR,iv 4]
 |some t=>if t.entity=e0 then .tup [.agg (scR c s0 t),iv 0]else .tup [.agg zsR,iv 5]
theorem withinR_ok(c:Cat)(e0:Str)(t:Tab)(n:Str):Pure Tryz.prog 133 [.agg (scR c e0 t),sv n] (wiR c e0 (findT c.tables n)):=by
 refine Pure.runk (fun _=>0) Tryz.func133 comp133 era133 (Nat.le_of_ble_eq_true rfl) fun σ=> ?_
 repeat'(first|exact .nil|refine .k0 ?_|refine .k1 ?_|refine .k2 ?_|refine .k6 ?_|refine .r1 ?_ ?_|(refine .l1 ?_;intro b)|(refine .m1 ?_ ?_;intro b)|fail)
 all_goals(try simp only[BL]at *)
 rename_i b2
 refine WK_loop (fun m rg σ'=>∃ i:Nat,i≤c.tables.length∧m=c.tables.length-i∧(∀ j,j<i→¬(c.tables.getD j default).name=n)∧σ'=(4,b,Blk.cells zsR)::(2,b2,Blk.cells (scR c e0 t))::σ∧rg=[(1,sv n),(2,.lp 2 b2 0),(4,.lp 4 b 0),(6,iv i)]) c.tables.length rfl ⟨_,_,Zr,Zs,0,Nat.zero_le _,rfl,fun j hj=>absurd hj (by omega),rfl,rfl⟩ ?_
 rintro m _ _ ⟨i,hi,hm,hp,rfl,rfl⟩
 have hF:i<c.tables.length→(c.tables.getD i default).name=n→wiR c e0 (findT c.tables n)=if(c.tables.getD i default).entity=e0 then .tup [.agg (scR c s0 (c.tables.getD i default)),iv 0]else .tup [.agg zsR,iv 5]:=fun h hn=>by
  rw[findT_at h hp hn];rfl
 repeat'(first|exact .nil|refine .k0 ?_|refine .k1 ?_|refine .k2 ?_|refine .k6 ?_|refine .k7 ?_|refine .k8 ?_|refine .k9 ?_|(refine .cd ?_ ?_<;>(intro hc;skip))|refine .r1 ?_ ?_|(refine .l1 ?_;intro b)|(refine .m2 ?_ ?_;intro hlen)|refine .t1 ?_ ?_ ?_|fail)
 try any_goals(exact Zo)
 all_goals(try simp only[BL]at *)
 ·exact⟨m-1,by omega,_,_,Zr,Zs,i+1,by omega,by omega,cons_lt hp hc,rfl,by rw[up1 (n:=c.tables.length) (by omega) (by assumption)]⟩
 ·rw[hF (by omega) (by assumption),if_neg hc];exact Zw
 ·rw[hF (by omega) (by assumption),if_pos hc];exact Zw
 ·rw[findT_no fun j hj=>hp j (by omega)];unfold wiR;exact Zw
set_option maxHeartbeats 16000000
def oSum:Str:=⟨#[115,117,109]⟩
def oMean:Str:=⟨#[109,101,97,110]⟩
def oQuant:Str:=⟨#[113,117,97,110,116,105,108,101]⟩
def oDecay:Str:=⟨#[100,101,99,97,121]⟩
def oMin:Str:=⟨#[109,105,110]⟩
def oMax:Str:=⟨#[109,97,120]⟩
theorem overAllR_ok(x:Ex)(A B:Ty)(ho:∃ y∈aggL,x.op=y):Pure Tryz.prog 158 [.agg x.row,.agg A.cells,.agg B.cells] (tyA (tyAgg x.op A B)):=by
 simp only[Ex.row_eq x]at *
 refine Pure.runk (fun _=>0) Tryz.func158 comp158 era158 (Nat.le_of_ble_eq_true rfl) fun σ=> ?_
 repeat'(first|exact .nil|refine .k0 ?_|refine .k1 ?_|refine .k2 ?_|refine .k4 ?_|refine .k6 ?_|refine .k7 ?_|refine .k9 ?_|(refine .cd ?_ ?_<;>(intro hc;first|exact kf hc (by assumption)|skip))|refine .r1 ?_ ?_|(refine .l1 ?_;intro b)|(refine .m1 ?_ ?_;intro b)|refine .an rfl (by intro hob;first|exact number_ok _|(refine(one_ok [oSum,oMean,oQuant,oDecay] x.op).wk ?_;(repeat' first|exact .refl _|refine .cons ?_ ?_|exact .sl|fail);done)|(refine(one_ok [oMin,oMax] x.op).wk ?_;(repeat' first|exact .refl _|refine .cons ?_ ?_|exact .sl|fail);done)) ?_ ?_|fail)
 try any_goals(exact Zo)
 all_goals(try simp only[BL]at *)
 all_goals try(show _≤1000000;decide)
 all_goals have ha:x.op∈aggL:=by obtain⟨y,hy,e⟩:=ho;rw[e];exact hy
 all_goals clear ho
 all_goals generalize x.op=o at *
 all_goals simp only[aggL,List.mem_cons,List.not_mem_nil,or_false,oSum,oMean,oQuant,oDecay,oMin,oMax,exists_eq_right,exists_eq_right']at *
 all_goals first
  |(rw[show tyAgg o A B=(tyZ,5)from by unfold tyAgg;grind];(refine Sx.Fin.wk Zs ?_;repeat' first|exact .refl _|exact .nil|refine .cons ?_ ?_|refine .tup ?_|refine .agg ?_|fail);done)
  |(rw[show tyAgg o A B=(⟨2,[],s0⟩,0)from by unfold tyAgg;grind];(refine Sx.Fin.wk Zs ?_;repeat' first|exact .refl _|exact .nil|refine .cons ?_ ?_|refine .tup ?_|refine .agg ?_|fail);done)
  |(rw[show tyAgg o A B=(⟨3,A.unit,s0⟩,0)from by unfold tyAgg;grind];(refine Sx.Fin.wk Zs ?_;repeat' first|exact .refl _|fail);done)
  |(rw[show tyAgg o A B=(A,0)from by unfold tyAgg;grind];(refine Sx.Fin.wk Zs ?_;repeat' first|exact .refl _|fail);done)
def RTimesC:Prop:=∀ a b:List Fac,Sx.Pure Tryz.prog 173 [.sl false 2 (a.map Fac.cells),.sl false 2 (b.map Fac.cells)] (unA (prodU a b 1))
def ROverC:Prop:=∀ a b:List Fac,Sx.Pure Tryz.prog 174 [.sl false 2 (a.map Fac.cells),.sl false 2 (b.map Fac.cells)] (unA (prodU a b (-1)))
theorem binOpR_ok(hT:RTimesC)(hO:ROverC)(o:Str)(A B:Ty)(ho:∃ y∈binL,o=y):Pure Tryz.prog 159 [sv o,.agg A.cells,.agg B.cells] (tyA (tyBin o A B)):=by
 unfold RTimesC at hT
 unfold ROverC at hO
 refine Pure.runk (fun _=>0) Tryz.func159 comp159 era159 (Nat.le_of_ble_eq_true rfl) fun σ=> ?_
 repeat'(first|exact .nil|refine .k0 ?_|refine .k1 ?_|refine .k2 ?_|refine .k4 ?_|refine .k6 ?_|refine .k7 ?_|refine .k9 ?_|(refine .cd ?_ ?_<;>(intro hc;first|exact kf hc (by assumption)|skip))|refine .r1 ?_ ?_|(refine .l1 ?_;intro b)|(refine .m1 ?_ ?_;intro b)|refine .an rfl (by intro hob;first|exact number_ok _|exact same_ok _ _|exact sameTyR_ok _ _|exact hT _ _|exact hO _ _) ?_ ?_|fail)
 try any_goals(exact Zo)
 all_goals(try simp only[BL]at *)
 all_goals have ha:o∈binL:=by obtain⟨y,hy,e⟩:=ho;rw[e];exact hy
 all_goals clear ho hT hO
 all_goals simp only[binL,List.mem_cons,List.not_mem_nil,or_false]at ha
 all_goals first
  |(rw[show tyBin o A B=(tyZ,5)from by unfold tyBin oAnd oOr oEq oNe oLt oLe oMul oDiv oAdd oSub;grind [Num]];(refine Sx.Fin.wk Zs ?_;repeat' first|exact .refl _|exact .nil|refine .cons ?_ ?_|refine .tup ?_|refine .agg ?_|fail);done)
  |(rw[show tyBin o A B=(truT,0)from by unfold tyBin oAnd oOr oEq oNe oLt oLe oMul oDiv oAdd oSub;grind [Num]];(refine Sx.Fin.wk Zs ?_;repeat' first|exact .refl _|exact .nil|refine .cons ?_ ?_|refine .tup ?_|refine .agg ?_|fail);done)
  |(rw[show tyBin o A B=(tyZ,70)from by unfold tyBin oAnd oOr oEq oNe oLt oLe oMul oDiv oAdd oSub;grind [Num]];(refine Sx.Fin.wk Zs ?_;repeat' first|exact .refl _|exact .nil|refine .cons ?_ ?_|refine .tup ?_|refine .agg ?_|fail);done)
  |(rw[show tyBin o A B=(⟨2,A.unit,s0⟩,0)from by unfold tyBin oAnd oOr oEq oNe oLt oLe oMul oDiv oAdd oSub;grind [Num]];(refine Sx.Fin.wk Zs ?_;repeat' first|exact .refl _|refine .cons ?_ ?_|refine .tup ?_|refine .agg ?_|fail);done)
  |(rw[show tyBin o A B=(⟨3,A.unit,s0⟩,0)from by unfold tyBin oAnd oOr oEq oNe oLt oLe oMul oDiv oAdd oSub;grind [Num]];(refine Sx.Fin.wk Zs ?_;repeat' first|exact .refl _|fail);done)
  |(rw[show tyBin o A B=(⟨2,(prodU A.unit B.unit 1).1,s0⟩,0)from by unfold tyBin oAnd oOr oEq oNe oLt oLe oMul oDiv oAdd oSub;grind [Num]];(refine Sx.Fin.wk Zs ?_;repeat' first|exact .refl _|fail);done)
  |(rw[show tyBin o A B=(⟨3,(prodU A.unit B.unit 1).1,s0⟩,0)from by unfold tyBin oAnd oOr oEq oNe oLt oLe oMul oDiv oAdd oSub;grind [Num]];(refine Sx.Fin.wk Zs ?_;repeat' first|exact .refl _|fail);done)
  |(rw[show tyBin o A B=(⟨3,(prodU A.unit B.unit (-1)).1,s0⟩,0)from by unfold tyBin oAnd oOr oEq oNe oLt oLe oMul oDiv oAdd oSub;grind [Num]];(refine Sx.Fin.wk Zs ?_;repeat' first|exact .refl _|fail);done)
theorem form_op{ins:Bool}{x:Ex}(h:form ins x=true):(x.kind=5→∃ y∈aggL,x.op=y)∧(x.kind=6→∃ y∈unL,x.op=y)∧(x.kind=7→∃ y∈binL,x.op=y):=by
 obtain⟨h1,_,_⟩:=(form_iff ins x).1 h
 unfold nodeB at h1
 refine⟨fun hk=> ?_,fun hk=> ?_,fun hk=> ?_⟩
 ·rw[if_neg (by omega),if_neg (by omega),if_neg (by omega),if_pos hk]at h1;exact h1.2.1
 ·rw[if_neg (by omega),if_neg (by omega),if_neg (by omega),if_neg (by omega),if_pos hk]at h1;exact h1.2
 ·rw[if_neg (by omega),if_neg (by omega),if_neg (by omega),if_neg (by omega),if_neg (by omega),if_pos hk]at h1;exact h1.2
def scT(C:Cat)(e0:Str):Option Tab→List AV
 |none=>scR C e0 zta
 |some t=>scR C s0 t
theorem sameT_both(a b:Ty):sameT a b=if bothE a b≠0 then(tyZ,bothE a b)else(b,0):=by
 unfold sameT bothE
 by_cases h1:a.kind≠b.kind∨a.of≠b.of
 ·simp only[if_pos h1];rfl
 ·by_cases h2:a.unit≠b.unit
  ·simp only[if_neg h1,if_pos h2];rfl
  ·simp only[if_neg h1,if_neg h2]
   have:a=b:=by
    cases a;cases b
    simp only[not_or,Classical.not_not]at h1 h2
    simp only[Ty.mk.injEq]
    exact⟨h1.1,h2,h1.2⟩
   rw[this];rfl
section
variable {C:Cat}{e0:Str}{tb:Option Tab}{x:Ex}{l:List Ty}
theorem opT_1(h:x.kind=1):opT C e0 tb x l=(⟨x.val.kind,x.unit,x.name⟩,0):=if_pos h
theorem opT_2{t:Tab}(h:x.kind=2):opT C e0 (some t) x l=fldT t.fields x.name:=by unfold opT;rw[if_neg (by omega),if_pos h]
theorem opT_3(h:x.kind=3):opT C e0 tb x l=namedT C.features x.name e0:=by unfold opT;rw[if_neg (by omega),if_neg (by omega),if_pos h]
theorem opT_4(h:x.kind=4):opT C e0 tb x l=if(l.getD 0 default).kind=5 then namedT C.features x.name (l.getD 0 default).of else(tyZ,5):=by unfold opT;rw[if_neg (by omega),if_neg (by omega),if_neg (by omega),if_pos h]
theorem opT_5(h:x.kind=5):opT C e0 tb x l=tyAgg x.op (l.getD 0 default) (l.getD 1 default):=by unfold opT;rw[if_neg (by omega),if_neg (by omega),if_neg (by omega),if_neg (by omega),if_pos h]
theorem opT_6(h:x.kind=6):opT C e0 tb x l=tyUn x.op (l.getD 0 default):=by unfold opT;rw[if_neg (by omega),if_neg (by omega),if_neg (by omega),if_neg (by omega),if_neg (by omega),if_pos h]
theorem opT_7(h:x.kind=7):opT C e0 tb x l=tyBin x.op (l.getD 0 default) (l.getD 1 default):=by unfold opT;rw[if_neg (by omega),if_neg (by omega),if_neg (by omega),if_neg (by omega),if_neg (by omega),if_neg (by omega),if_pos h]
theorem opT_8(h:x.kind=8):opT C e0 tb x l=if(l.getD 0 default).kind=1 then(if bothE (l.getD 1 default) (l.getD 2 default)≠0 then(tyZ,bothE (l.getD 1 default) (l.getD 2 default))else(l.getD 2 default,0))else(tyZ,5):=by
 unfold opT;rw[if_neg (by omega),if_neg (by omega),if_neg (by omega),if_neg (by omega),if_neg (by omega),if_neg (by omega),if_neg (by omega),if_pos h,sameT_both]
theorem opT_9(h:x.kind=9):opT C e0 tb x l=if bothE (l.getD 0 default) (l.getD 1 default)≠0 then(tyZ,bothE (l.getD 0 default) (l.getD 1 default))else(l.getD 1 default,0):=by
 unfold opT;rw[if_neg (by omega),if_neg (by omega),if_neg (by omega),if_neg (by omega),if_neg (by omega),if_neg (by omega),if_neg (by omega),if_neg (by omega),sameT_both]
end
theorem operationR_ok(hT:RTimesC)(hO:ROverC)(C:Cat)(e0:Str)(tb:Option Tab)(x:Ex)(hf:form tb.isSome x=true)(l:List Ty)(hl:l.length=x.args.length):Pure Tryz.prog 134 [.agg (scT C e0 tb),.agg x.row,tysA l] (tyA (opT C e0 tb x l)):=by
 have hkk:=form_kind hf
 have hop:=form_op hf
 have hA:=fun(h:x.kind=5)=>overAllR_ok x (l.getD 0 default) (l.getD 1 default) (hop.1 h)
 have hB:=fun(h:x.kind=7)=>binOpR_ok hT hO x.op (l.getD 0 default) (l.getD 1 default) (hop.2.2 h)
 simp only[Ex.row_eq x]at hA ⊢
 cases tb
 all_goals
  unfold scT
  simp only[Option.isSome_none,Option.isSome_some,reduceCtorEq,false_and,and_false,false_or,Bool.true_eq_false,Bool.false_eq_true,true_and]at hkk
  refine Pure.runk (fun _=>0) Tryz.func134 comp134 era134 (Nat.le_of_ble_eq_true rfl) fun σ=> ?_
  repeat'(first|exact .nil|refine .k0 ?_|refine .k1 ?_|refine .k2 ?_|refine .k3 ?_|refine .k4 ?_|refine .k5 ?_|refine .k6 ?_|refine .k7 ?_|refine .k8 ?_|refine .k9 ?_|(refine .cd ?_ ?_<;>first|with_reducible exact tF|with_reducible exact fT|(intro hc;first|exact kf hc (by assumption)|exact kt hc (by assumption)|skip))|refine .r1 ?_ ?_|(refine .l1 ?_;intro b)|(refine .m1 ?_ ?_;intro b)|(refine .m2 ?_ ?_;intro hlen)|(refine .m3 ?_ ?_;intro hlen)|refine .t1 ?_ ?_ ?_|refine .t2 ?_ ?_ ?_|refine .t3 ?_ ?_ ?_|refine .t4 ?_ ?_ ?_|(refine .l2 ?_;intro b)|refine .u1 ?_ ?_ ?_ (fun b u c=> ?_)|refine .u2 ?_ ?_ ?_ (fun b u c=> ?_)|refine .u4 ?_ ?_ (fun b u c=> ?_)|refine .u5 ?_ ?_ ?_|refine .u3 ?_ ?_ (fun hr0=> ?_) (fun hr1 b u c=> ?_)|refine .an rfl (by intro hob;first|exact fieldR_ok C _ _ _|exact featR10_ok C _ _ _ _|exact hA (by first|omega|(simp only[BL]at *;omega))|exact number_ok _|exact hB (by first|omega|(simp only[BL]at *;omega))|exact bothR_ok _ _) ?_ ?_|refine .t5 ?_ ?_ ?_|refine .t6 ?_ ?_ ?_|refine .t7 ?_ ?_ ?_|refine .r2 ?_ ?_|refine .r3 ?_ ?_|refine .r4 ?_ ?_|refine .r5 ?_ ?_|(refine .l3 ?_;intro b)|refine .r6 ?_ ?_|refine .r7 ?_ ?_|refine .r8 ?_ ?_|refine .r9 ?_ ?_|refine .ra ?_ ?_|(show List.all _ _=true;rfl)|(show(_:Nat)=_;rfl))
  try any_goals(exact Zo)
  all_goals(try simp only[BL]at *)
  all_goals clear hA hB
  all_goals first
   |(rw[opT_1 (by assumption)];(refine Sx.Fin.wk Zs ?_;repeat' first|exact .refl _|exact .nil|refine .cons ?_ ?_|refine .tup ?_|refine .agg ?_|exact .sl|exact .own _);done)
   |(exfalso;omega)
   |(rw[opT_2 (by assumption)];(refine Sx.Fin.wk Zs ?_;repeat' first|exact .refl _|exact .nil|refine .cons ?_ ?_|refine .tup ?_|refine .agg ?_|exact .sl|exact .own _);done)
   |(rw[opT_3 (by assumption)];(refine Sx.Fin.wk Zs ?_;repeat' first|exact .refl _|exact .nil|refine .cons ?_ ?_|refine .tup ?_|refine .agg ?_|exact .sl|exact .own _);done)
   |(rw[opT_4 (by assumption),if_neg hc];(refine Sx.Fin.wk Zs ?_;repeat' first|exact .refl _|exact .nil|refine .cons ?_ ?_|refine .tup ?_|refine .agg ?_|exact .sl|exact .own _);done)
   |(rw[opT_4 (by assumption),if_pos hc];(refine Sx.Fin.wk Zs ?_;repeat' first|exact .refl _|exact .nil|refine .cons ?_ ?_|refine .tup ?_|refine .agg ?_|exact .sl|exact .own _);done)
   |(rw[opT_5 (by assumption)];(refine Sx.Fin.wk Zs ?_;repeat' first|exact .refl _|exact .nil|refine .cons ?_ ?_|refine .tup ?_|refine .agg ?_|exact .sl|exact .own _);done)
   |(rw[opT_7 (by assumption)];(refine Sx.Fin.wk Zs ?_;repeat' first|exact .refl _|exact .nil|refine .cons ?_ ?_|refine .tup ?_|refine .agg ?_|exact .sl|exact .own _);done)
   |(rw[opT_8 (by assumption),if_neg hc];(refine Sx.Fin.wk Zs ?_;repeat' first|exact .refl _|exact .nil|refine .cons ?_ ?_|refine .tup ?_|refine .agg ?_|exact .sl|exact .own _);done)
   |(have h3:l.length=3:=by omega
     have e1:IntKind.i64.wrap ((l.length:Int)-1)=2:=by rw[h3];rfl
     have e2:IntKind.i64.wrap ((2:Int)-1)=1:=rfl
     simp only[e1,e2,Int.reduceToNat]at hc ⊢
     first
      |(show(0:Int)≤_∧_;omega)
      |(rw[opT_8 (by omega),if_pos (by assumption),if_pos hc];(refine Sx.Fin.wk Zs ?_;repeat' first|exact .refl _|exact .nil|refine .cons ?_ ?_|refine .tup ?_|refine .agg ?_|exact .sl|exact .own _);done)
      |(rw[opT_8 (by omega),if_pos (by assumption),if_neg (by rw[hc];simp)];(refine Sx.Fin.wk Zs ?_;repeat' first|exact .refl _|exact .nil|refine .cons ?_ ?_|refine .tup ?_|refine .agg ?_|exact .sl|exact .own _);done))
   |(have h3:l.length=2:=by omega
     have e1:IntKind.i64.wrap ((l.length:Int)-1)=1:=by rw[h3];rfl
     have e2:IntKind.i64.wrap ((1:Int)-1)=0:=rfl
     simp only[e1,e2,Int.reduceToNat]at hc ⊢
     first
      |(show(0:Int)≤_∧_;omega)
      |(rw[opT_9 (by omega),if_pos hc];(refine Sx.Fin.wk Zs ?_;repeat' first|exact .refl _|exact .nil|refine .cons ?_ ?_|refine .tup ?_|refine .agg ?_|exact .sl|exact .own _);done)
      |(rw[opT_9 (by omega),if_neg (by rw[hc];simp)];(refine Sx.Fin.wk Zs ?_;repeat' first|exact .refl _|exact .nil|refine .cons ?_ ?_|refine .tup ?_|refine .agg ?_|exact .sl|exact .own _);done))
   |(have h3:l.length=2:=by omega
     have e1:IntKind.i64.wrap ((l.length:Int)-1)=1:=by rw[h3];rfl
     have e2:IntKind.i64.wrap ((1:Int)-1)=0:=rfl
     simp only[e1,e2]
     show(0:Int)≤_∧_;omega)
   |(have ha:x.op∈unL:=by obtain⟨y,hy,e⟩:=hop.2.1 (by omega);rw[e];exact hy
     rw[opT_6 (by omega)]
     simp only[unL,List.mem_cons,List.not_mem_nil,or_false]at ha
     clear hop hkk
     generalize l.getD 0 default=A at *
     first
      |(rw[show tyUn x.op A=(tyZ,5)from by unfold tyUn;grind];(refine Sx.Fin.wk Zs ?_;repeat' first|exact .refl _|exact .nil|refine .cons ?_ ?_|refine .tup ?_|refine .agg ?_|exact .sl|exact .own _);done)
      |(rw[show tyUn x.op A=(A,0)from by unfold tyUn;grind];(refine Sx.Fin.wk Zs ?_;repeat' first|exact .refl _|exact .nil|refine .cons ?_ ?_|refine .tup ?_|refine .agg ?_|exact .sl|exact .own _);done)
      |(rw[show tyUn x.op A=(⟨1,[],s0⟩,0)from by unfold tyUn;grind];(refine Sx.Fin.wk Zs ?_;repeat' first|exact .refl _|exact .nil|refine .cons ?_ ?_|refine .tup ?_|refine .agg ?_|exact .sl|exact .own _);done))
   |skip
def Gr4(rows:List (List AV))(y:AV)(τ:Store):Prop:=(rows=[]∧y=nilA∧τ=[])∨∃ b u c,y= .own 3 53 b u c rows∧τ=[(53,b,.tail u c)]
theorem gr4_wk{L:List Ty}{y:AV}{τ:Store}(h:Gr4 (L.map Ty.cells) y τ):Wk y (tysA L):=by
 rcases h with⟨hE,rfl,rfl⟩|⟨b,u,c,rfl,rfl⟩
 ·rw[List.map_eq_nil_iff.1 hE];exact .nil
 ·exact .own _
def InfR(C:Cat)(e0:Str)(x:Ex):Prop:=∀ tb,form tb.isSome x=true→Sx.Pure Tryz.prog 104 [.agg (scT C e0 tb),.agg x.row] (tyA (inf C e0 x tb))
theorem inferR_in(hT:RTimesC)(hO:ROverC)(C:Cat)(e0:Str)(x:Ex)(ih:∀ i,i<x.args.length→InfR C e0 (x.args.getD i default))(tb:Option Tab)(hf:form tb.isSome x=true)(hk:¬x.kind=5):Pure Tryz.prog 104 [.agg (scT C e0 tb),.agg x.row] (tyA (inf C e0 x tb)):=by
 have hkk:=form_kind hf
 have hR0:=operationR_ok hT hO C e0 tb x hf
 have hal:x.args.length≤3:=by omega
 have hfa:∀ i,i<x.args.length→form tb.isSome (x.args.getD i default)=true:=fun i hi=>by
  have:=((form_iff _ x).1 hf).2.2.1 _ (getD_mem hi)
  rwa [decide_eq_false hk,Bool.or_false]at this
 have hA0:=fun(i:Nat) (h:i<x.args.length)=>ih i h tb (hfa i h)
 have hin:inT C e0 tb x=(tb,0):=if_neg hk
 rw[inf_eq,hin]
 have hS:∃ e1 t1,scT C e0 tb=scR C e1 t1:=by cases tb;exact⟨_,_,rfl⟩;exact⟨_,_,rfl⟩
 obtain⟨e1,t1,hS⟩:=hS
 rw[hS]at hR0 hA0 ⊢
 clear hS
 simp only[Ex.row_eq x]at hR0 ⊢
 refine Pure.runk (fun _=>0) Tryz.func104 comp104 era104 (Nat.le_of_ble_eq_true rfl) fun σ=> ?_
 repeat'(first|exact .nil|refine .k0 ?_|refine .k1 ?_|refine .k2 ?_|refine .k6 ?_|refine .k9 ?_|(refine .cd ?_ ?_<;>(intro hc;skip))|refine .r1 ?_ ?_|(refine .l1 ?_;intro b)|(refine .m1 ?_ ?_;intro b)|fail)
 all_goals(try simp only[BL]at *)
 ·exact absurd hc hk
 rename_i b2 b3 b4
 rename Nat=>b6
 refine WK_loop (fun m rg σ'=>∃ (i:Nat) (L:List Ty) (y:AV) (τ:Store),i≤x.args.length∧m=x.args.length-i∧L.length=i∧infL C e0 x.args (tb)=(L++(infL C e0 (x.args.drop i) (tb)).1,(infL C e0 (x.args.drop i) (tb)).2)∧Gr4 (L.map Ty.cells) y τ∧σ'=τ++(6,b6,Blk.cells (scR C e1 t1))::(4,b4,Blk.cells tyB)::(3,b3,Blk.cells x.lay)::(2,b2,Blk.cells (scR C e1 t1))::σ∧rg=[(2,.lp 2 b2 0),(3,.lp 3 b3 0),(4,.lp 4 b4 0),(6,.lp 6 b6 0),(9,y),(10,iv i)]) x.args.length rfl ⟨_,_,Zr,Zs,0,[],_,_,Nat.zero_le _,rfl,rfl,rfl,.inl ⟨rfl,rfl,rfl⟩,rfl,rfl⟩ ?_
 rintro m _ _ ⟨i,L,y,τ,hi,hm,hL,hinf,hG,rfl,rfl⟩
 have hW:=gr4_wk hG
 have hR1:=fun(h:L.length=x.args.length)=>(hR0 L h).wk (.cons (.refl _) (.cons (.refl _) (.cons hW .nil)))
 have hA:=hA0 i
 have hd:=fun(h:i<x.args.length) TB=>infL_drop C e0 h TB
 rcases hG with⟨hE,rfl,rfl⟩|⟨b7,u7,c7,rfl,rfl⟩
 all_goals
  repeat'(first|exact .nil|refine .k0 ?_|refine .k1 ?_|refine .k2 ?_|refine .k3 ?_|refine .k6 ?_|refine .k7 ?_|refine .k8 ?_|refine .k9 ?_|(refine .cd ?_ ?_<;>(intro hc;skip))|refine .r1 ?_ ?_|(refine .l1 ?_;intro b)|(refine .m2 ?_ ?_;intro hlen)|refine .t1 ?_ ?_ ?_|refine .u1 ?_ ?_ ?_ (fun b u c=> ?_)|refine .u2 ?_ ?_ ?_ (fun b u c=> ?_)|refine .an rfl (by intro hob;first|exact hA (by(simp only[BL]at *;omega))|exact hR1 (by(simp only[BL]at *;omega))) ?_ ?_|(show List.all _ _=true;rfl)|fail)
  try any_goals(exact Zo)
  all_goals(try simp only[BL]at *)
  all_goals try(show _≤1000000;simp only[List.length_cons,List.length_nil];omega)
  all_goals try(show _ * _≤_;simp only[List.length_map,List.length_cons,List.length_nil];omega)
  all_goals first
   |(show Sx.Fin _ _ _ _
     have hil:i<x.args.length:=by omega
     rw[hinf,hd hil,if_pos hc,fin_err hc];exact Zw;done)
   |(show Sx.Fin _ _ _ _
     have hil:i=x.args.length:=by omega
     subst hil
     rw[hinf,List.drop_length,infL,fin_op];exact Zw;done)
   |(have hil:i<x.args.length:=by omega
     refine⟨m-1,by omega,_,[(53,b,.tail u c)]++(6,b6,Blk.cells (scR C e1 t1))::(4,b4,Blk.cells tyB)::(3,b3,Blk.cells x.lay)::(2,b2,Blk.cells (scR C e1 t1))::σ,Zr,Zs,i+1,L++[(inf C e0 (x.args.getD i default) (tb)).1],_,_,by omega,by omega,by simp[hL],?_,.inr ⟨b,u,c,?_,rfl⟩,rfl,by rw[up1 (n:=50) (by omega) (by decide)]⟩
     ·rw[hinf,hd hil,if_neg (by rw[hc];simp)];simp
     ·rw[List.map_append];first|rfl|(rw[hE];rfl))
theorem wiR_n(C:Cat)(e0:Str):wiR C e0 none= .tup [.agg zsR,iv 4]:=rfl
theorem wiR_s(C:Cat)(e0:Str)(t:Tab):wiR C e0 (some t)=if t.entity=e0 then .tup [.agg (scR C s0 t),iv 0]else .tup [.agg zsR,iv 5]:=rfl
theorem inferR_agg(hT:RTimesC)(hO:ROverC)(C:Cat)(e0:Str)(x:Ex)(ih:∀ i,i<x.args.length→InfR C e0 (x.args.getD i default))(hf:form false x=true)(hk:x.kind=5):Pure Tryz.prog 104 [.agg (scT C e0 none),.agg x.row] (tyA (inf C e0 x none)):=by
 have hkk:=form_kind hf
 have hR0:=operationR_ok hT hO C e0 none x hf
 have hal:x.args.length≤3:=by omega
 have hfa:∀ t:Tab,∀ i,i<x.args.length→form (some t).isSome (x.args.getD i default)=true:=fun t i hi=>by
  have:=((form_iff _ x).1 hf).2.2.1 _ (getD_mem hi)
  rwa [decide_eq_true hk,Bool.or_true]at this
 rw[inf_eq]
 have hin:inT C e0 none x=match findT C.tables x.table with
  |none=>(none,4)
  |some t=>if t.entity=e0 then(some t,0)else(none,5):=if_pos hk
 rw[hin]
 clear hin
 have hWi:=withinR_ok C e0 zta x.table
 cases hF:findT C.tables x.table with
 |none=>
  rw[hF,wiR_n]at hWi
  show Pure _ _ _ (tyA (finT C e0 none x 4 (infL C e0 x.args none)))
  rw[show finT C e0 none x 4 (infL C e0 x.args none)=(tyZ,4)from if_pos (by decide)]
  unfold scT
  simp only[Ex.row_eq x]at hR0 ⊢
  refine Pure.runk (fun _=>0) Tryz.func104 comp104 era104 (Nat.le_of_ble_eq_true rfl) fun σ=> ?_
  repeat'(first|exact .nil|refine .k0 ?_|refine .k1 ?_|refine .k2 ?_|refine .k6 ?_|refine .k7 ?_|refine .k9 ?_|(refine .cd ?_ ?_<;>(intro hc;skip))|refine .r1 ?_ ?_|(refine .l1 ?_;intro b)|(refine .m1 ?_ ?_;intro b)|refine .an rfl (by intro hob;first|exact hWi|fail) ?_ ?_|fail)
  all_goals(try simp only[BL]at *)
  all_goals first|(show Sx.Fin _ _ _ _;(refine Sx.Fin.wk Zs ?_;repeat' first|exact .refl _|exact .nil|refine .cons ?_ ?_|refine .tup ?_|refine .agg ?_|fail);done)|(exfalso;omega)
 |some t=>
  rw[hF,wiR_s]at hWi
  show Pure _ _ _ (tyA (finT C e0 none x (if t.entity=e0 then(some t,(0:Int))else(none,5)).2 (infL C e0 x.args (if t.entity=e0 then(some t,(0:Int))else(none,5)).1)))
  by_cases he:t.entity=e0
  rotate_left
  ·rw[if_neg he]at hWi
   rw[if_neg he,show finT C e0 none x 5 (infL C e0 x.args none)=(tyZ,5)from if_pos (by decide)]
   unfold scT
   simp only[Ex.row_eq x]at hR0 ⊢
   refine Pure.runk (fun _=>0) Tryz.func104 comp104 era104 (Nat.le_of_ble_eq_true rfl) fun σ=> ?_
   repeat'(first|exact .nil|refine .k0 ?_|refine .k1 ?_|refine .k2 ?_|refine .k6 ?_|refine .k7 ?_|refine .k9 ?_|(refine .cd ?_ ?_<;>(intro hc;skip))|refine .r1 ?_ ?_|(refine .l1 ?_;intro b)|(refine .m1 ?_ ?_;intro b)|refine .an rfl (by intro hob;first|exact hWi|fail) ?_ ?_|fail)
   all_goals(try simp only[BL]at *)
   all_goals first|(show Sx.Fin _ _ _ _;(refine Sx.Fin.wk Zs ?_;repeat' first|exact .refl _|exact .nil|refine .cons ?_ ?_|refine .tup ?_|refine .agg ?_|fail);done)|(exfalso;omega)
  rw[if_pos he]at hWi
  rw[if_pos he]
  have hA0:=fun(i:Nat) (h:i<x.args.length)=>ih i h (some t) (hfa t i h)
  unfold scT at hR0 hA0 ⊢
  simp only[Ex.row_eq x]at hR0 ⊢
  clear hF
  refine Pure.runk (fun _=>0) Tryz.func104 comp104 era104 (Nat.le_of_ble_eq_true rfl) fun σ=> ?_
  repeat'(first|exact .nil|refine .k0 ?_|refine .k1 ?_|refine .k2 ?_|refine .k6 ?_|refine .k7 ?_|refine .k9 ?_|(refine .cd ?_ ?_<;>(intro hc;skip))|refine .r1 ?_ ?_|(refine .l1 ?_;intro b)|(refine .m1 ?_ ?_;intro b)|refine .an rfl (by intro hob;first|exact hWi|fail) ?_ ?_|fail)
  all_goals(try simp only[BL]at *)
  ·exact absurd trivial hc
  rotate_left
  ·exact absurd hk hc
  rename_i b2 b3 b4 b6 _
  refine WK_loop (fun m rg σ'=>∃ (i:Nat) (L:List Ty) (y:AV) (τ:Store),i≤x.args.length∧m=x.args.length-i∧L.length=i∧infL C e0 x.args (some t)=(L++(infL C e0 (x.args.drop i) (some t)).1,(infL C e0 (x.args.drop i) (some t)).2)∧Gr4 (L.map Ty.cells) y τ∧σ'=τ++(6,b6,Blk.cells (scR C s0 t))::(4,b4,Blk.cells tyB)::(3,b3,Blk.cells x.lay)::(2,b2,Blk.cells (scR C e0 zta))::σ∧rg=[(2,.lp 2 b2 0),(3,.lp 3 b3 0),(4,.lp 4 b4 0),(6,.lp 6 b6 0),(9,y),(10,iv i)]) x.args.length rfl ⟨_,_,Zr,Zs,0,[],_,_,Nat.zero_le _,rfl,rfl,rfl,.inl ⟨rfl,rfl,rfl⟩,rfl,rfl⟩ ?_
  rintro m _ _ ⟨i,L,y,τ,hi,hm,hL,hinf,hG,rfl,rfl⟩
  have hW:=gr4_wk hG
  have hR1:=fun(h:L.length=x.args.length)=>(hR0 L h).wk (.cons (.refl _) (.cons (.refl _) (.cons hW .nil)))
  have hA:=hA0 i
  have hd:=fun(h:i<x.args.length) TB=>infL_drop C e0 h TB
  rcases hG with⟨hE,rfl,rfl⟩|⟨b7,u7,c7,rfl,rfl⟩
  all_goals
   repeat'(first|exact .nil|refine .k0 ?_|refine .k1 ?_|refine .k2 ?_|refine .k3 ?_|refine .k6 ?_|refine .k7 ?_|refine .k8 ?_|refine .k9 ?_|(refine .cd ?_ ?_<;>(intro hc;skip))|refine .r1 ?_ ?_|(refine .l1 ?_;intro b)|(refine .m2 ?_ ?_;intro hlen)|refine .t1 ?_ ?_ ?_|refine .u1 ?_ ?_ ?_ (fun b u c=> ?_)|refine .u2 ?_ ?_ ?_ (fun b u c=> ?_)|refine .an rfl (by intro hob;first|exact hA (by(simp only[BL]at *;omega))|exact hR1 (by(simp only[BL]at *;omega))) ?_ ?_|(show List.all _ _=true;rfl)|fail)
   try any_goals(exact Zo)
   all_goals(try simp only[BL]at *)
   all_goals try(show _≤1000000;simp only[List.length_cons,List.length_nil];omega)
   all_goals try(show _ * _≤_;simp only[List.length_map,List.length_cons,List.length_nil];omega)
   all_goals first
    |(show Sx.Fin _ _ _ _
      have hil:i<x.args.length:=by omega
      rw[hinf,hd hil,if_pos hc,fin_err hc];exact Zw;done)
    |(show Sx.Fin _ _ _ _
      have hil:i=x.args.length:=by omega
      subst hil
      rw[hinf,List.drop_length,infL,fin_op];exact Zw;done)
    |(have hil:i<x.args.length:=by omega
      refine⟨m-1,by omega,_,[(53,b,.tail u c)]++(6,b6,Blk.cells (scR C s0 t))::(4,b4,Blk.cells tyB)::(3,b3,Blk.cells x.lay)::(2,b2,Blk.cells (scR C e0 zta))::σ,Zr,Zs,i+1,L++[(inf C e0 (x.args.getD i default) (some t)).1],_,_,by omega,by omega,by simp[hL],?_,.inr ⟨b,u,c,?_,rfl⟩,rfl,by rw[up1 (n:=50) (by omega) (by decide)]⟩
      ·rw[hinf,hd hil,if_neg (by rw[hc];simp)];simp
      ·rw[List.map_append];first|rfl|(rw[hE];rfl))
theorem inferR_all(hT:RTimesC)(hO:ROverC)(C:Cat)(e0:Str):∀ (n:Nat) (x:Ex),x.size≤n→InfR C e0 x
 |0,x,h=>by cases x;simp[Ex.size]at h
 |n+1,x,h=>fun tb hf=>by
  have ih:∀ i,i<x.args.length→InfR C e0 (x.args.getD i default):=fun i hi=>inferR_all hT hO C e0 n _ (by have:=Ex.size_arg x hi;omega)
  by_cases hk:x.kind=5
  ·have h5:tb=none:=by
    rcases form_kind hf with h|h|h|h|h|h|h|h|h
    all_goals first|omega|skip
    cases tb with
    |none=>rfl
    |some t=>exact absurd h.2.1 (by simp)
   subst h5
   exact inferR_agg hT hO C e0 x ih hf hk
  ·exact inferR_in hT hO C e0 x ih tb hf hk
theorem inferTR_ok(hT:RTimesC)(hO:ROverC)(C:Cat)(e0:Str)(x:Ex)(hs:x.size≤100000):Pure Tryz.prog 71 [.agg C.cells,sv e0,.agg x.row] (tyA (inferT C e0 x)):=by
 have hS:=shapeR_ok x hs
 have hI:=fun(h:shape x=0)=>inferR_all hT hO C e0 x.size x (Nat.le_refl _) none (shape_form0 h)
 unfold inferT
 generalize inf C e0 x none=r at *
 generalize shape x=sh at *
 unfold scT at hI
 simp only[Ex.row_eq x]at hS hI ⊢
 refine Pure.runk (fun _=>0) Tryz.func71 comp71 era71 (Nat.le_of_ble_eq_true rfl) fun σ=> ?_
 repeat'(first|exact .nil|refine .k0 ?_|refine .k1 ?_|refine .k2 ?_|refine .k7 ?_|refine .k9 ?_|(refine .cd ?_ ?_<;>(intro hc;skip))|refine .r1 ?_ ?_|(refine .l1 ?_;intro b)|(refine .m1 ?_ ?_;intro b)|refine .an rfl (by intro hob;first|exact hS|(refine(hI (by(simp only[BL]at *;omega))).wk ?_;(repeat' first|exact .refl _|exact .nil|refine .cons ?_ ?_|refine .agg ?_|fail);done)) ?_ ?_|fail)
 all_goals(try simp only[BL]at *)
 ·rw[if_pos hc];exact Zw
 ·rw[if_neg (by rw[hc];simp)];exact Zw
theorem featureTR_ok(hT:RTimesC)(hO:ROverC)(C:Cat)(f:Fea)(hs:f.body.size≤100000):Pure Tryz.prog 42 [.agg C.cells,.agg f.cells] (iv (feaErr C f)):=by
 have hI:=inferTR_ok hT hO C f.entity f.body hs
 unfold feaErr
 rw[sameT_both]
 generalize inferT C f.entity f.body=r at *
 refine Pure.runk (fun _=>0) Tryz.func42 comp42 era42 (Nat.le_of_ble_eq_true rfl) fun σ=> ?_
 repeat'(first|exact .nil|refine .k0 ?_|refine .k1 ?_|refine .k2 ?_|refine .k4 ?_|refine .k7 ?_|refine .k9 ?_|(refine .cd ?_ ?_<;>(intro hc;skip))|refine .r1 ?_ ?_|(refine .l1 ?_;intro b)|(refine .m1 ?_ ?_;intro b)|refine .an rfl (by intro hob;first|exact nameR_ok _|exact typeR_ok _|exact hI|exact bothR_ok _ _) ?_ ?_|fail)
 try any_goals(exact Zo)
 all_goals(try simp only[BL]at *)
 all_goals
  refine Sx.Fin.intro Zs (bi ?_)
  grind
theorem mem_take_getD{α:Type}[Inhabited α]{l:List α}{k i:Nat}(h:k<i)(hi:i≤l.length):l.getD k default∈l.take i:=by
 have hk:k<l.length:=by omega
 rw[getD_eq hk]
 exact List.mem_take_iff_getElem.2 ⟨k,by omega,rfl⟩
theorem take_none{α:Type}[Inhabited α]{p:α→Prop}{l:List α}{i:Nat}(hi:i≤l.length)(h:∀ j,j<i→¬p (l.getD j default)):¬∃ x∈l.take i,p x:=by
 rintro⟨x,hx,hp⟩
 obtain⟨k,hk,rfl⟩:=List.mem_take_iff_getElem.1 hx
 exact h k (by omega) (by rw[getD_eq (by omega)];exact hp)
theorem tableR_ok(t:Tab):Pure Tryz.prog 67 [.agg t.cells] (iv (tabErr t)):=by
 refine Pure.runk (fun _=>0) Tryz.func67 comp67 era67 (Nat.le_of_ble_eq_true rfl) fun σ=> ?_
 repeat'(first|exact .nil|refine .k0 ?_|refine .k1 ?_|refine .k2 ?_|refine .k4 ?_|refine .k6 ?_|refine .k7 ?_|refine .k9 ?_|(refine .cd ?_ ?_<;>(intro hc;skip))|refine .r1 ?_ ?_|(refine .m1 ?_ ?_;intro b)|(refine .m2 ?_ ?_;intro hlen)|refine .an rfl (by intro hob;first|exact nameR_ok _|fail) ?_ ?_|fail)
 try any_goals(exact Zo)
 all_goals(try simp only[BL]at *)
 ·refine Sx.Fin.intro Zs (bi ?_)
  unfold tabErr;rw[if_pos (by grind)]
 ·refine Sx.Fin.intro Zs (bi ?_)
  unfold tabErr;rw[if_neg (by grind),if_pos (by omega)]
 have hu:tabErr t=fldErrL [] t.fields:=by unfold tabErr;rw[if_neg (by grind),if_neg (by omega)]
 refine WK_loop (fun n rg σ'=>∃ (i:Nat),i≤t.fields.length∧n=t.fields.length-i∧tabErr t=fldErrL (t.fields.take i) (t.fields.drop i)∧σ'=(1,b,Blk.cells t.cells)::σ∧rg=[(1,.lp 1 b 0),(3,iv i)]) t.fields.length rfl ⟨_,_,Zr,Zs,0,Nat.zero_le _,rfl,hu,rfl,rfl⟩ ?_
 rintro n _ _ ⟨i,hi,hn,hp,rfl,rfl⟩
 repeat'(first|exact .nil|refine .k0 ?_|refine .k1 ?_|refine .k2 ?_|refine .k6 ?_|refine .k7 ?_|refine .k8 ?_|refine .k9 ?_|(refine .cd ?_ ?_<;>(intro hc;skip))|refine .r1 ?_ ?_|(refine .m2 ?_ ?_;intro hlen)|refine .t1 ?_ ?_ ?_|refine .an rfl (by intro hob;first|exact nameR_ok _|fail) ?_ ?_|fail)
 try any_goals(exact Zo)
 all_goals(try simp only[BL]at *)
 ·rw[hp,fldErrL_end (e:=3) (by omega) (if_pos hc) (by decide)]
  exact Zw
 rotate_left
 ·rw[hp,List.drop_eq_nil_of_le (by omega),fldErrL]
  exact Zw
 refine WK_loop (fun n rg σ'=>∃ (k:Nat),k≤i∧n=i-k∧(∀ j,j<k→¬(t.fields.getD j default).name=(t.fields.getD i default).name)∧σ'=(1,b,Blk.cells t.cells)::σ∧rg=[(1,.lp 1 b 0),(3,iv i),(4,iv k)]) i rfl ⟨_,_,Zr,Zs,0,Nat.zero_le _,rfl,fun j hj=>absurd hj (by omega),rfl,rfl⟩ ?_
 rintro n _ _ ⟨k,hk,hn2,hq,rfl,rfl⟩
 repeat'(first|exact .nil|refine .k0 ?_|refine .k1 ?_|refine .k2 ?_|refine .k5 ?_|refine .k6 ?_|refine .k7 ?_|refine .k8 ?_|refine .k9 ?_|(refine .cd ?_ ?_<;>(intro hc;skip))|refine .r1 ?_ ?_|refine .t1 ?_ ?_ ?_|refine .an rfl (by intro hob;exact typeR_ok (t.fields.getD i default).type) ?_ ?_|fail)
 try any_goals(exact Zo)
 all_goals(try simp only[BL]at *)
 ·have hN:∃ x∈t.fields.take i,x.name=(t.fields.getD i default).name:=⟨_,mem_take_getD (by omega) hi,hc⟩
  rw[hp,fldErrL_end (e:=121) (by omega) (by unfold fldErr;rw[if_neg (not_not_intro ‹_›),if_pos hN]) (by decide)]
  exact Zw
 ·refine⟨i-(k+1),by omega,_,_,Zr,Zs,k+1,by omega,rfl,cons_lt hq hc,rfl,by rw[up1 (n:=t.fields.length) (i:=k) (by omega) (by assumption)]⟩
 ·have hN:=take_none (p:=fun x:Fld=>x.name=(t.fields.getD i default).name) hi (fun j hj=>hq j (by omega))
  rw[hp,fldErrL_end (by omega) (by unfold fldErr;rw[if_neg (not_not_intro ‹_›),if_neg hN]) hc]
  exact Zw
 ·have hN:=take_none (p:=fun x:Fld=>x.name=(t.fields.getD i default).name) hi (fun j hj=>hq j (by omega))
  refine⟨t.fields.length-(i+1),by omega,_,_,Zr,Zs,i+1,by omega,rfl,?_,rfl,by rw[up1 (n:=t.fields.length) (by omega) (by assumption)]⟩
  rw[hp,fldErrL_step (by omega) (by unfold fldErr;rw[if_neg (not_not_intro ‹_›),if_neg hN];exact hc)]
theorem tablesR_ok(C:Cat)(hs:Small C):Pure Tryz.prog 39 [.agg C.cells] (iv (tabsL none C.tables)):=by
 refine Pure.runk (fun _=>0) Tryz.func39 comp39 era39 (Nat.le_of_ble_eq_true rfl) fun σ=> ?_
 repeat'(first|exact .nil|refine .k0 ?_|refine .k1 ?_|refine .k2 ?_|refine .k6 ?_|refine .r1 ?_ ?_|(refine .m1 ?_ ?_;intro b)|fail)
 all_goals(try simp only[BL]at *)
 refine WK_loop (fun m rg σ'=>∃ i:Nat,i≤C.tables.length∧m=C.tables.length-i∧tabsL none C.tables=tabsL (prevT C.tables i) (C.tables.drop i)∧σ'=(1,b,.cells C.cells)::σ∧rg=[(1,.lp 1 b 0),(3,iv i)]) C.tables.length rfl ⟨_,_,Zr,Zs,0,Nat.zero_le _,rfl,rfl,rfl,rfl⟩ ?_
 rintro m _ _ ⟨i,hi,hm,hL,rfl,rfl⟩
 have hil:i≤maxLen:=by unfold maxLen;have:=hs.t;omega
 have hoi:=ordT_iff (l:=C.tables) (i:=i) (s:=(C.tables.getD i default).name) hil
 repeat'(first|exact .nil|refine .k0 ?_|refine .k1 ?_|refine .k2 ?_|refine .k3 ?_|refine .k4 ?_|refine .k5 ?_|refine .k6 ?_|refine .k7 ?_|refine .k8 ?_|refine .k9 ?_|(refine .cd ?_ ?_<;>(intro hc;skip))|refine .r1 ?_ ?_|(refine .m2 ?_ ?_;intro hlen)|refine .t1 ?_ ?_ ?_|refine .an rfl (by intro hob;exact tableR_ok _) ?_ ?_|fail)
 try any_goals(exact Zo)
 all_goals(try simp only[BL]at *)
 ·rw[show tabsL none C.tables=tabErr (C.tables.getD i default) by rw[hL,tabsL_drop (by omega),if_pos hc]];exact Zw
 ·rw[show tabsL none C.tables=1 by rw[hL,tabsL_drop (by omega),if_neg (by grind),if_pos (hoi.1 hc)]];exact Zw
 ·have hor:¬ordErr 0 (prevT C.tables i) (C.tables.getD i default).name:=fun h=>by
   have h2:=hoi.2 h
   rcases hc with hc|⟨hc1,hc2⟩
   ·exact hc h2.1
   ·rcases h2.2 with h3|h3
    ·rw[hc1]at h3;cases h3
    ·exact hc2 h3
  exact⟨m-1,by omega,_,_,Zr,Zs,i+1,by omega,by omega,by rw[hL,tabsL_drop (by omega),if_neg (by grind),if_neg hor],rfl,by rw[up1 (n:=C.tables.length) (by omega) (by assumption)]⟩
 ·intro h;unfold maxLen at hil;rw[i64w (by omega)];omega
 ·rw[show tabsL none C.tables=0 by rw[hL,show i=C.tables.length by omega,List.drop_length,tabsL]];exact Zw
theorem ownR_ok(f:Fea)(hs:f.body.size≤100000):Pure Tryz.prog 41 [.agg f.cells] (iv (ownErr f)):=by
 have hS:=shapeR_ok f.body hs
 unfold ownErr
 refine Pure.runk (fun _=>0) Tryz.func41 comp41 era41 (Nat.le_of_ble_eq_true rfl) fun σ=> ?_
 repeat'(first|exact .nil|refine .k0 ?_|refine .k1 ?_|refine .k2 ?_|refine .k4 ?_|refine .k7 ?_|refine .k9 ?_|(refine .cd ?_ ?_<;>(intro hc;skip))|refine .r1 ?_ ?_|(refine .m1 ?_ ?_;intro b)|refine .an rfl (by intro hob;first|exact nameR_ok _|exact typeR_ok _|exact hS) ?_ ?_|fail)
 try any_goals(exact Zo)
 all_goals(try simp only[BL]at *)
 all_goals
  refine Sx.Fin.intro Zs (bi ?_)
  grind
theorem versionsR_ok(C:Cat)(hs:Small C):Pure Tryz.prog 40 [.agg C.cells] (.sl false 18 (C.all.map Fea.cells)):=by
 have h1:=hs.f
 have h2:=hs.d
 have h3:=hs.p
 refine Pure.runk (fun d=>if d=4 then 3 else 0) Tryz.func40 comp40 era40 (Nat.le_of_ble_eq_true rfl) fun σ=> ?_
 repeat'(first|exact .nil|refine .k0 ?_|refine .k1 ?_|refine .k2 ?_|refine .k7 ?_|refine .r1 ?_ ?_|(refine .m1 ?_ ?_;intro b)|refine .u2 ?_ ?_ ?_ (fun b u c=> ?_)|refine .u3 ?_ ?_ (fun hr0=> ?_) (fun hr1 b u c=> ?_)|refine .r8 ?_ ?_|fail)
 all_goals(try simp only[BL]at *)
 all_goals try(show _≤1000000;decide)
 all_goals try(show _ * _≤_;simp only[List.length_map,List.length_append,List.length_nil];omega)
 all_goals try(show List.all _ _=true;rw[List.all_map,List.all_eq_true];intro y _;rfl)
 all_goals
  have hall:C.all.map Fea.cells=C.features.map Fea.cells++C.drafts.map Fea.cells++C.past.map Fea.cells:=by unfold Cat.all;rw[List.map_append,List.map_append]
  rw[hall]
  try rw[‹List.map Fea.cells C.features=[]›]
  try rw[‹List.map Fea.cells C.drafts=[]›]
  try rw[‹List.map Fea.cells C.past=[]›]
  simp only[List.nil_append,List.append_nil]
  refine Sx.Fin.wk Zs ?_
  first|exact .own _|exact Wk.flr rfl
set_option maxHeartbeats 4000000
def offC(C:Cat)(n:Nat):Nat:=if n=0 then 0 else if n=1 then C.features.length else C.features.length+C.drafts.length
def keyF(f:Fea):Str×Int:=(f.name,f.version)
structure AtC(C:Cat)(i n j:Nat):Prop where
 hn:n≤2
 hj:j≤(LL C n).length
 hi:i=offC C n+j
 hv:verErr C=if(verL n (prevN (LL C n) j) ((LL C n).drop j) ((C.all.take i).map keyF)).1≠0 then(verL n (prevN (LL C n) j) ((LL C n).drop j) ((C.all.take i).map keyF)).1 else verN C (2-n) (n+1) (verL n (prevN (LL C n) j) ((LL C n).drop j) ((C.all.take i).map keyF)).2
theorem AtC.start(C:Cat):AtC C 0 0 0:=⟨by omega,by omega,rfl,rfl⟩
theorem AtC.over{C:Cat}{i n j:Nat}(h:AtC C i n j)(hj:j=(LL C n).length)(hn:n<2):AtC C i (n+1) 0:=by
 obtain⟨h1,h2,h3,h4⟩:=h
 subst hj
 rw[List.drop_length,verL,if_neg (by simp)]at h4
 refine⟨by omega,Nat.zero_le _,?_,?_⟩
 ·have hn2:n=0∨n=1:=by omega
  rcases hn2 with rfl|rfl
  ·rw[h3];unfold offC LL;simp
  ·rw[h3];unfold offC LL;simp
 ·rw[h4,show 2-n=(2-(n+1))+1 by omega,verN]
  rfl
theorem AtC.end_{C:Cat}{i j:Nat}(h:AtC C i 2 j)(hj:j=(LL C 2).length):verErr C=0:=by
 obtain⟨h1,h2,h3,h4⟩:=h
 subst hj
 rw[List.drop_length,verL,if_neg (by simp)]at h4
 rw[h4];rfl
theorem all_len(C:Cat):C.all.length=C.features.length+C.drafts.length+C.past.length:=by unfold Cat.all;simp[Nat.add_assoc]
theorem AtC.in_{C:Cat}{i n j:Nat}(h:AtC C i n j)(hi:i<C.all.length):∃ n j,AtC C i n j∧j<(LL C n).length:=by
 have hl:=all_len C
 have key:∀ k n j,2-n≤k→AtC C i n j→∃ n j,AtC C i n j∧j<(LL C n).length:=by
  intro k
  induction k with
  |zero=>
   intro n j hk h
   have hn:n=2:=by have:=h.hn;omega
   subst hn
   refine⟨2,j,h,?_⟩
   have h3:=h.hi
   have:(LL C 2).length=C.past.length:=rfl
   unfold offC at h3
   simp at h3
   omega
  |succ k ih=>
   intro n j hk h
   by_cases hj:j<(LL C n).length
   ·exact⟨n,j,h,hj⟩
   ·by_cases hn:n<2
    ·exact ih (n+1) 0 (by omega) (h.over (by have:=h.hj;omega) hn)
    ·exact ih n j (by omega) h
 exact key (2-n) n j (Nat.le_refl _) h
theorem AtC.done{C:Cat}{n j:Nat}(h:AtC C C.all.length n j):verErr C=0:=by
 have hl:=all_len C
 have key:∀ k n j,2-n≤k→AtC C C.all.length n j→verErr C=0:=by
  intro k
  induction k with
  |zero=>
   intro n j hk h
   have hn:n=2:=by have:=h.hn;omega
   subst hn
   refine h.end_ ?_
   have h3:=h.hi
   have h4:(LL C 2).length=C.past.length:=rfl
   unfold offC at h3
   simp at h3
   omega
  |succ k ih=>
   intro n j hk h
   by_cases hn:n<2
   ·refine ih (n+1) 0 (by omega) (h.over ?_ hn)
    have h3:=h.hi
    have h5:=h.hj
    have hn2:n=0∨n=1:=by omega
    rcases hn2 with rfl|rfl
    ·have h4:(LL C 0).length=C.features.length:=rfl
     unfold offC at h3
     simp at h3
     omega
    ·have h4:(LL C 1).length=C.drafts.length:=rfl
     unfold offC at h3
     simp at h3
     omega
   ·exact ih n j (by omega) h
 exact key (2-n) n j (Nat.le_refl _) h
theorem getD_app{α:Type}(a b:List α)(d:α){k:Nat}:(a++b).getD k d=if k<a.length then a.getD k d else b.getD (k-a.length) d:=by
 simp only[List.getD_eq_getElem?_getD]
 by_cases h:k<a.length
 ·rw[if_pos h,List.getElem?_append_left h]
 ·rw[if_neg h,List.getElem?_append_right (by omega)]
theorem AtC.get{C:Cat}{i n j:Nat}(h:AtC C i n j)(hj:j<(LL C n).length):i<C.all.length∧C.all.getD i default=(LL C n).getD j default:=by
 have hl:=all_len C
 have h3:=h.hi
 have hn2:n=0∨n=1∨n=2:=by have:=h.hn;omega
 unfold offC at h3
 rcases hn2 with rfl|rfl|rfl
 ·have h4:LL C 0=C.features:=rfl
  rw[h4]at hj ⊢
  simp at h3
  subst h3
  refine⟨by omega,?_⟩
  unfold Cat.all
  rw[getD_app,if_pos (by simp;omega),getD_app,if_pos hj]
 ·have h4:LL C 1=C.drafts:=rfl
  rw[h4]at hj ⊢
  simp at h3
  subst h3
  refine⟨by omega,?_⟩
  unfold Cat.all
  rw[getD_app,if_pos (by simp;omega),getD_app,if_neg (by omega),Nat.add_sub_cancel_left]
 ·have h4:LL C 2=C.past:=rfl
  rw[h4]at hj ⊢
  simp at h3
  subst h3
  refine⟨by omega,?_⟩
  unfold Cat.all
  rw[getD_app,if_neg (by simp),List.length_append,Nat.add_sub_cancel_left]
theorem AtC.step{C:Cat}{i n j:Nat}(h:AtC C i n j)(hj:j<(LL C n).length):
  (ownErr (C.all.getD i default)≠0→verErr C=ownErr (C.all.getD i default))∧
  (ownErr (C.all.getD i default)=0→ordErr n (prevN (LL C n) j) (C.all.getD i default).name→verErr C=1)∧
  (ownErr (C.all.getD i default)=0→¬ordErr n (prevN (LL C n) j) (C.all.getD i default).name→hasV ((C.all.take i).map keyF) (keyF (C.all.getD i default))=true→verErr C=121)∧
  (ownErr (C.all.getD i default)=0→¬ordErr n (prevN (LL C n) j) (C.all.getD i default).name→hasV ((C.all.take i).map keyF) (keyF (C.all.getD i default))=false→AtC C (i+1) n (j+1)):=by
 obtain⟨hi,hg⟩:=h.get hj
 have hv:=h.hv
 have hT:=verL_drop n hj ((C.all.take i).map keyF)
 rw[← hg]at hT
 generalize verL n (prevN (LL C n) j) ((LL C n).drop j) ((C.all.take i).map keyF)=T at *
 refine⟨fun h1=> ?_,fun h1 h2=> ?_,fun h1 h2 h3=> ?_,fun h1 h2 h3=> ?_⟩
 ·rw[if_pos h1]at hT;rw[hT]at hv;rw[hv];exact if_pos h1
 ·rw[if_neg (by rw[h1];simp),if_pos h2]at hT;rw[hT]at hv;rw[hv];exact if_pos (by simp)
 ·rw[if_neg (by rw[h1];simp),if_neg h2,if_pos (show hasV ((C.all.take i).map keyF) ((C.all.getD i default).name,(C.all.getD i default).version)=true from h3)]at hT;rw[hT]at hv;rw[hv];exact if_pos (by simp)
 ·rw[if_neg (by rw[h1];simp),if_neg h2,if_neg (show¬hasV ((C.all.take i).map keyF) ((C.all.getD i default).name,(C.all.getD i default).version)=true from by rw[show hasV ((C.all.take i).map keyF) ((C.all.getD i default).name,(C.all.getD i default).version)=false from h3];simp)]at hT
  rw[hT]at hv
  refine⟨h.hn,hj,by have:=h.hi;omega,?_⟩
  rw[hv,List.take_succ_eq_append_getElem hi,List.map_append,List.map_singleton,← getD_eq hi]
  rfl
theorem AtC.first{C:Cat}{i n j:Nat}(h:AtC C i n j)(hj:j<(LL C n).length):(i=0∨i=C.features.length∨i=C.features.length+C.drafts.length)↔j=0:=by
 have h3:=h.hi
 have hn2:n=0∨n=1∨n=2:=by have:=h.hn;omega
 unfold offC at h3
 rcases hn2 with rfl|rfl|rfl
 ·have h4:(LL C 0).length=C.features.length:=rfl
  simp at h3;omega
 ·have h4:(LL C 1).length=C.drafts.length:=rfl
  simp at h3;omega
 ·have h4:(LL C 2).length=C.past.length:=rfl
  simp at h3;omega
theorem AtC.past{C:Cat}{i n j:Nat}(h:AtC C i n j)(hj:j<(LL C n).length):i<C.features.length+C.drafts.length↔n<2:=by
 have h3:=h.hi
 have hn2:n=0∨n=1∨n=2:=by have:=h.hn;omega
 unfold offC at h3
 rcases hn2 with rfl|rfl|rfl
 ·have h4:(LL C 0).length=C.features.length:=rfl
  simp at h3;omega
 ·have h4:(LL C 1).length=C.drafts.length:=rfl
  simp at h3;omega
 ·have h4:(LL C 2).length=C.past.length:=rfl
  simp at h3;omega
theorem AtC.prev{C:Cat}{i n j:Nat}(h:AtC C i n j)(hj:j<(LL C n).length)(h0:0<j):C.all.getD (i-1) default=(LL C n).getD (j-1) default:=by
 have h2:AtC C (i-1) n (j-1)→_:=fun h=>(h.get (by omega)).2
 have hl:=all_len C
 have h3:=h.hi
 have hn2:n=0∨n=1∨n=2:=by have:=h.hn;omega
 unfold offC at h3
 rcases hn2 with rfl|rfl|rfl
 ·have h4:LL C 0=C.features:=rfl
  rw[h4]at hj ⊢
  simp at h3
  unfold Cat.all
  rw[getD_app,if_pos (by simp;omega),getD_app,if_pos (by omega),h3]
 ·have h4:LL C 1=C.drafts:=rfl
  rw[h4]at hj ⊢
  simp at h3
  unfold Cat.all
  rw[getD_app,if_pos (by simp;omega),getD_app,if_neg (by omega),show i-1-C.features.length=j-1 by omega]
 ·have h4:LL C 2=C.past:=rfl
  rw[h4]at hj ⊢
  simp at h3
  unfold Cat.all
  rw[getD_app,if_neg (by simp;omega),List.length_append,show i-1-(C.features.length+C.drafts.length)=j-1 by omega]
theorem AtC.ord{C:Cat}{i n j:Nat}(h:AtC C i n j)(hj:j<(LL C n).length)(s:Str):ordErr n (prevN (LL C n) j) s↔¬(i=0∨i=C.features.length∨i=C.features.length+C.drafts.length)∧(sLt s (C.all.getD (i-1) default).name=true∨(i<C.features.length+C.drafts.length∧s=(C.all.getD (i-1) default).name)):=by
 rw[h.first hj,h.past hj]
 unfold prevN
 by_cases h0:j=0
 ·rw[if_pos h0];unfold ordErr;simp[h0]
 ·rw[if_neg h0,h.prev hj (by omega)]
  unfold ordErr
  simp[h0]
theorem taken_iff{C:Cat}{i:Nat}(hi:i≤C.all.length)(f:Fea):hasV ((C.all.take i).map keyF) (keyF f)=true↔∃ k,k<i∧(C.all.getD k default).name=f.name∧(C.all.getD k default).version=f.version:=by
 rw[hasV_t,List.mem_map]
 constructor
 ·rintro⟨g,hg,e⟩
  obtain⟨k,hk,rfl⟩:=List.mem_take_iff_getElem.1 hg
  refine⟨k,by omega,?_⟩
  rw[getD_eq (by omega)]
  unfold keyF at e
  simp only[Prod.mk.injEq]at e
  exact e
 ·rintro⟨k,hk,h1,h2⟩
  refine⟨C.all.getD k default,mem_take_getD hk hi,?_⟩
  unfold keyF
  rw[h1,h2]
set_option maxHeartbeats 16000000
theorem checkR_ok(hT:RTimesC)(hO:ROverC)(C:Cat)(hs:Small C)(hc0:C.Fits):Pure Tryz.prog 12 [.agg C.cells] (iv (catErr C)):=by
 have hTb:=tablesR_ok C hs
 have hVs:=versionsR_ok C hs
 have hOw0:=fun(i:Nat) (h:i<C.all.length)=>ownR_ok (C.all.getD i default) (Nat.le_trans (all_size hs (getD_mem h)) (by decide))
 have hF0:=fun(i:Nat) (h:i<C.features.length)=>featureTR_ok hT hO C (C.features.getD i default) (Nat.le_trans (all_size hs (LL_all (n:=0) (show C.features.getD i default∈LL C 0 from getD_mem h))) (by decide))
 have hY:=cycle12_ok C hs hc0
 have hl:=all_len C
 have h1:=hs.f
 have h2:=hs.d
 have h3:=hs.p
 have hw:IntKind.i64.wrap ((C.features.length:Int)+(C.drafts.length:Int))=(C.features.length:Int)+(C.drafts.length:Int):=i64w (by omega)
 unfold catErr
 generalize cycL (deps C.features) (namesF C.features)=Y at *
 refine Pure.runk (fun _=>0) Tryz.func12 comp12 era12 (Nat.le_of_ble_eq_true rfl) fun σ=> ?_
 rename Store=>σ
 repeat'(first|exact .nil|refine .k0 ?_|refine .k1 ?_|refine .k2 ?_|refine .k4 ?_|refine .k6 ?_|refine .k7 ?_|refine .k9 ?_|(refine .cd ?_ ?_<;>(intro hc;skip))|refine .r1 ?_ ?_|(refine .m1 ?_ ?_;intro b)|(refine .m2 ?_ ?_;intro hlen)|refine .an rfl (by intro hob;first|exact hTb|exact hVs|fail) ?_ ?_|fail)
 try any_goals((intro hob;first|(simp_all;done)|fail))
 all_goals(try simp only[BL]at *)
 ·refine Sx.Fin.intro Zs (bi ?_)
  rw[if_pos (by grind)]
 ·have hl16:¬(C.tables.length>16∨C.features.length>32∨C.drafts.length>32∨C.past.length>32):=by grind
  refine Sx.Fin.intro Zs (bi ?_)
  rw[if_neg hl16,if_pos hc]
 have hl16:¬(C.tables.length>16∨C.features.length>32∨C.drafts.length>32∨C.past.length>32):=by grind
 rw[if_neg hl16,if_neg (by rw[hc];simp)]
 rw[hw]
 refine WK_loop (fun m rg σ'=>∃ i n j:Nat,AtC C i n j∧i≤C.all.length∧m=C.all.length-i∧σ'=(1,b,.cells C.cells)::σ∧rg=[(1,.lp 1 b 0),(4,.sl false 18 (C.all.map Fea.cells)),(5,iv ((C.features.length:Int)+C.drafts.length)),(6,iv i)]) C.all.length rfl ⟨_,_,Zr,Zs,0,0,0,AtC.start C,Nat.zero_le _,rfl,rfl,rfl⟩ ?_
 rintro m _ _ ⟨i,n,j,hA,hi,hm,rfl,rfl⟩
 have hOw:=fun h:i<C.all.length=>hOw0 i h
 have hpr:0<i→(IntKind.i64.wrap ((i:Int)-1)).toNat=i-1:=fun h=>by rw[i64w (by omega)];omega
 repeat'(first|exact .nil|refine .k0 ?_|refine .k1 ?_|refine .k2 ?_|refine .k3 ?_|refine .k4 ?_|refine .k5 ?_|refine .k6 ?_|refine .k7 ?_|refine .k8 ?_|refine .k9 ?_|(refine .cd ?_ ?_<;>(intro hc;skip))|refine .r1 ?_ ?_|(refine .m2 ?_ ?_;intro hlen)|refine .t1 ?_ ?_ ?_|refine .an rfl (by intro hob;first|exact hOw (by(simp only[BL]at *;omega))|fail) ?_ ?_|fail)
 try any_goals((intro hob;first|(simp_all;done)|fail))
 all_goals(try simp only[BL]at *)
 ·obtain⟨n',j',hA,hj⟩:=hA.in_ (by omega)
  rw[(hA.step hj).1 hc,if_pos hc];exact Zw
 ·have h0:ownErr (C.all.getD i default)=0:=by assumption
  obtain⟨n',j',hA,hj⟩:=hA.in_ (by omega)
  rw[hpr (by omega)]at hc
  rw[(hA.step hj).2.1 h0 ((hA.ord hj _).2 ⟨by omega,by rcases hc.2 with h|h;exact .inl h;exact .inr ⟨by omega,h.2⟩⟩),if_pos (by decide)];exact Zw
 ·have h0:ownErr (C.all.getD i default)=0:=by assumption
  obtain⟨n',j',hA,hj⟩:=hA.in_ (by omega)
  have hno:¬ordErr n' (prevN (LL C n') j') (C.all.getD i default).name:=fun h=>by
   obtain⟨g1,g2⟩:=(hA.ord hj _).1 h
   rcases hc with hc|⟨hc1,hc2⟩
   ·omega
   ·rw[hpr (by omega)]at hc1 hc2
    rcases g2 with g|⟨g3,g4⟩
    ·unfold sLt at g;rw[hc1]at g;cases g
    ·rcases hc2 with h2|h2
     ·omega
     ·exact h2 g4
  have hil:i<C.all.length:=by omega
  clear hc hOw hpr hOw0 hF0 hY hTb hVs
  refine WK_loop (fun m rg σ'=>∃ k:Nat,k≤i∧m=i-k∧(∀ q,q<k→¬((C.all.getD q default).name=(C.all.getD i default).name∧(C.all.getD q default).version=(C.all.getD i default).version))∧σ'=(1,b,.cells C.cells)::σ∧rg=[(1,.lp 1 b 0),(4,.sl false 18 (C.all.map Fea.cells)),(5,iv ((C.features.length:Int)+C.drafts.length)),(6,iv i),(8,iv k)]) i rfl ⟨_,_,Zr,Zs,0,Nat.zero_le _,rfl,fun q hq=>absurd hq (by omega),rfl,rfl⟩ ?_
  rintro m2 _ _ ⟨k,hk,hm2,hq,rfl,rfl⟩
  repeat'(first|exact .nil|refine .k0 ?_|refine .k1 ?_|refine .k2 ?_|refine .k3 ?_|refine .k4 ?_|refine .k5 ?_|refine .k6 ?_|refine .k7 ?_|refine .k8 ?_|refine .k9 ?_|(refine .cd ?_ ?_<;>(intro hc;skip))|refine .r1 ?_ ?_|refine .t1 ?_ ?_ ?_|fail)
  try any_goals((intro hob;first|(simp_all;done)|(simp only[BL]at *;omega)))
  all_goals(try simp only[BL]at *)
  ·rw[(hA.step hj).2.2.1 h0 hno ((taken_iff (by omega) _).2 ⟨k,by omega,hc⟩),if_pos (by decide)];exact Zw
  ·refine⟨i-(k+1),by omega,_,_,Zr,Zs,k+1,by omega,rfl,fun q hqk=> ?_,rfl,by rw[i64w (by omega)];rfl⟩
   by_cases e:q=k
   ·subst e;rintro⟨e1,e2⟩;rcases hc with hc|hc;exact hc e1;exact hc e2
   ·exact hq q (by omega)
  ·have hki:k=i:=by omega
   subst hki
   have hnt:hasV ((C.all.take k).map keyF) (keyF (C.all.getD k default))=false:=by
    rw[← Bool.not_eq_true,taken_iff (by omega)]
    rintro⟨q,hqk,h⟩
    exact hq q hqk h
   exact⟨C.all.length-(k+1),by omega,_,_,Zr,Zs,k+1,n',j'+1,(hA.step hj).2.2.2 h0 hno hnt,by omega,rfl,rfl,by rw[i64w (by omega)];rfl⟩
 ·intro h;rw[i64w (by omega)];omega
 ·intro h;rw[i64w (by omega)];omega
 have hve:verErr C=0:=by
  have hiL:i=C.all.length:=by omega
  subst hiL
  exact hA.done
 rw[hve,if_neg (by simp)]
 clear hA hOw hpr hm hi
 refine WK_loop (fun m rg σ'=>∃ i:Nat,i≤C.features.length∧m=C.features.length-i∧feasL C C.features=feasL C (C.features.drop i)∧σ'=(1,b,.cells C.cells)::σ∧rg=[(1,.lp 1 b 0),(9,iv i)]) C.features.length rfl ⟨_,_,Zr,Zs,0,Nat.zero_le _,rfl,rfl,rfl,rfl⟩ ?_
 rintro m _ _ ⟨i,hi,hm,hL,rfl,rfl⟩
 have hF:=hF0 i
 have hY1:Y.length=0↔Y=[]:=List.length_eq_zero_iff
 repeat'(first|exact .nil|refine .k0 ?_|refine .k1 ?_|refine .k2 ?_|refine .k5 ?_|refine .k6 ?_|refine .k7 ?_|refine .k8 ?_|refine .k9 ?_|(refine .cd ?_ ?_<;>(intro hc;skip))|refine .r1 ?_ ?_|(refine .m2 ?_ ?_;intro hlen)|refine .t1 ?_ ?_ ?_|refine .an rfl (by intro hob;first|exact hF (by(simp only[BL]at *;omega))|exact hY) ?_ ?_|fail)
 try any_goals((intro hob;first|(simp_all;done)|fail))
 all_goals(try simp only[BL]at *)
 ·rw[show feasL C C.features=feaErr C (C.features.getD i default) by rw[hL,feasL_drop C (by omega),if_pos hc],if_pos hc];exact Zw
 ·exact⟨m-1,by omega,_,_,Zr,Zs,i+1,by omega,by omega,by rw[hL,feasL_drop C (by omega),if_neg (by grind)],rfl,by rw[up1 (n:=C.features.length) (by omega) (by assumption)]⟩
 all_goals have h1:feasL C C.features=0:=by rw[hL,show i=C.features.length by omega,List.drop_length,feasL]
 all_goals rw[h1,if_neg (by simp)]
 ·rw[if_pos (fun h=>by subst h;simp at hc)];exact Zw
 ·rw[if_neg (fun h=>h (hY1.1 (by omega)))];exact Zw
end Go.Proofs.YtekngilbecjkhaaGreatDoor
