/- catalog.find, Feature, Draft: the first feature with a name. -/
import Derived.Test.YtekngilbecjkhaaGreatDoorCa
import Derived.Test.YtekngilbecjkhaaGreatDoorPa
set_option linter.unusedSimpArgs false
set_option linter.unusedVariables false
set_option maxRecDepth 100000
set_option maxHeartbeats 4000000
namespace Go.Proofs.YtekngilbecjkhaaGreatDoor
open Go.Sx Go.Proofs
def feaZ:List AV:=[sv ⟨#[]⟩,sv ⟨#[]⟩,iv 0,.v (.slice none 0 0),sv ⟨#[]⟩,iv 0,sv ⟨#[]⟩,sv ⟨#[]⟩,sv ⟨#[]⟩,iv 0,iv 0,sv ⟨#[]⟩,.v (.slice none 0 0),iv 0,iv 0,iv 0,.v (.slice none 0 0),iv 0]
def foundF(o:Option Fea):AV:=match o with
 |some f=> .tup [.agg f.cells,.v (.bool true)]
 |none=> .tup [.agg feaZ,.v (.bool false)]
theorem nameIs_ok(x:Fea)(n:Str)(b c:Nat)(Y:Blk)(τ:Store):At Tryz.prog 81 [.agg x.cells,.lp 3 b 0] (.v (.bool (decide (x.name=n)))) ((4,c,Y)::(3,b,Blk.cells [sv n])::τ):=by
 refine At.runk (fun _=>0) Tryz.func81 comp81 era81 (Nat.le_of_ble_eq_true rfl) ?_
 repeat'(first|exact .nil|refine .k0 ?_|refine .k1 ?_|refine .k2 ?_|refine .k7 ?_|refine .r1 ?_ ?_|(refine .m1 ?_ ?_;intro b)|fail)
 all_goals(try simp only[BL]at *)
 ·exact Sx.Fin.intro Zs rfl
theorem indexFea_ok(fs:List Fea)(n:Str)(b c:Nat)(Y:Blk)(τ:Store):At Tryz.prog 80 [.sl false 18 (fs.map Fea.cells),.v (.func (.func 81) #[] #[.pointer (some ⟨b,0,none⟩)])] (iv (firstIdx (fun x=>decide (x.name=n)) fs 0)) ((4,c,Y)::(3,b,Blk.cells [sv n])::τ):=by
 refine At.runk (fun _=>0) Tryz.func80 comp80 era80 (Nat.le_of_ble_eq_true rfl) ?_
 repeat'(first|exact .nil|refine .k0 ?_|refine .k1 ?_|refine .k2 ?_|refine .k6 ?_|refine .r1 ?_ ?_|(refine .m2 ?_ ?_;intro hlen)|fail)
 all_goals(try simp only[BL]at *)
 refine WK_loop (fun m rg σ'=>∃ i:Nat,i≤fs.length∧m=fs.length-i∧(∀ j,j<i→¬(fs.getD j default).name=n)∧σ'=(4,c,Y)::(3,b,Blk.cells [sv n])::τ∧rg=[(0,.sl false 18 (fs.map Fea.cells)),(1,.v (.func (.func 81) #[] #[.pointer (some ⟨b,0,none⟩)])),(7,iv fs.length),(8,iv i)]) fs.length rfl ⟨_,_,Zr,Zs,0,Nat.zero_le _,rfl,fun j hj=>absurd hj (by omega),rfl,rfl⟩ ?_
 rintro m _ _ ⟨i,hi,hn,hp,rfl,rfl⟩
 repeat'(first|exact .nil|refine .k0 ?_|refine .k1 ?_|refine .k2 ?_|refine .k6 ?_|refine .k7 ?_|refine .k8 ?_|refine .k9 ?_|(refine .cd ?_ ?_<;>(intro hc;skip))|refine .r1 ?_ ?_|refine .t1 ?_ ?_ ?_|fail)
 try any_goals(exact Zo)
 all_goals(try simp only[BL]at *)
 refine VX_callvA rfl rfl (by rfl) (fun _=>(nameIs_ok (fs.getD i default) n b c Y τ).wk (WkL.cons (Wk.refl _) (WkL.cons (Wk.ptr _ _ _) WkL.nil))) OB.nil ?_
 repeat'(first|exact .nil|refine .k0 ?_|refine .k1 ?_|refine .k2 ?_|refine .k7 ?_|refine .k9 ?_|(refine .cd ?_ ?_<;>(intro hc;skip))|refine .r1 ?_ ?_|fail)
 all_goals(try simp only[BL]at *)
 ·rw[firstIdx_at (p:=fun x:Fea=>decide (x.name=n)) (l:=fs) (k:=0) (i:=i) (fun j hj=>decide_eq_false (hp j hj)) (by omega) (decide_eq_true hc),Nat.zero_add]
  exact Zw
 ·refine⟨fs.length-(i+1),by omega,_,_,Zr,Zs,i+1,by omega,rfl,cons_lt hp hc,rfl,by rw[up1 (by omega) hlen]⟩
 ·rw[firstIdx_no (fun y hy=>decide_eq_false (take_all (p:=fun y:Fea=>¬y.name=n) (fun j hj=>hp j (by omega)) y hy))]
  exact Zw
theorem firstIdx_find(p:Fea→Bool):∀ (l:List Fea) (k:Nat),(l.find? p=none∧firstIdx p l k= -1)∨∃ i:Nat,i<l.length∧firstIdx p l k=((k+i:Nat):Int)∧l.find? p=some (l.getD i default)
 |[],k=> .inl ⟨rfl,rfl⟩
 |x::l,k=>by
  unfold firstIdx
  by_cases h:p x=true
  ·exact .inr ⟨0,by simp,by simp[h],by simp[h]⟩
  ·rcases firstIdx_find p l (k+1)with⟨h1,h2⟩|⟨i,h1,h2,h3⟩
   ·exact .inl ⟨by simp[h,h1],by simp[h,h2]⟩
   ·exact .inr ⟨i+1,by simpa using h1,by rw[if_neg h,h2];omega,by simp[h,h3]⟩
theorem find_none(fs:List Fea)(n:Str)(h:findF fs n=none):Pure Tryz.prog 55 [.sl false 18 (fs.map Fea.cells),sv n] (.tup [.agg feaZ,.v (.bool false)]):=by
 have hi:=fun b c Y τ=>indexFea_ok fs n b c Y τ
 have h2:firstIdx (fun x=>decide (x.name=n)) fs 0= -1:=by
  rcases firstIdx_find (fun x=>decide (x.name=n)) fs 0 with⟨h1,h2⟩|⟨i,h3,h2,h1⟩
  ·exact h2
  ·unfold findF at h;rw[h]at h1;cases h1
 rw[h2]at hi
 refine Pure.runk (fun _=>0) Tryz.func55 comp55 era55 (Nat.le_of_ble_eq_true rfl) fun σ=> ?_
 repeat'(first|exact .nil|refine .k0 ?_|refine .k1 ?_|refine .k2 ?_|refine .r1 ?_ ?_|(refine .l1 ?_;intro b)|(refine .m1 ?_ ?_;intro b)|fail)
 all_goals(try simp only[BL]at *)
 refine VX_callA rfl (fun _=>hi _ _ _ _) OB.nil ?_
 repeat'(first|exact .nil|refine .k0 ?_|refine .k1 ?_|refine .k2 ?_|refine .k7 ?_|refine .k9 ?_|(refine .cd ?_ ?_<;>(intro hc;skip))|refine .r1 ?_ ?_|refine .t1 ?_ ?_ ?_|fail)
 try any_goals(exact Zo)
 all_goals(try simp only[BL]at *)
 all_goals first|(exfalso;omega)|((refine Sx.Fin.wk Zs ?_;repeat' first|exact .refl _|fail))|fail
theorem find_some(fs:List Fea)(n:Str)(f:Fea)(h:findF fs n=some f):Pure Tryz.prog 55 [.sl false 18 (fs.map Fea.cells),sv n] (.tup [.agg f.cells,.v (.bool true)]):=by
 have hi:=fun b c Y τ=>indexFea_ok fs n b c Y τ
 obtain⟨i,h3,h2,h1⟩:∃ i:Nat,i<fs.length∧firstIdx (fun x=>decide (x.name=n)) fs 0=(i:Int)∧fs.getD i default=f:=by
  rcases firstIdx_find (fun x=>decide (x.name=n)) fs 0 with⟨h1,h2⟩|⟨i,h3,h2,h1⟩
  ·unfold findF at h;rw[h]at h1;cases h1
  ·unfold findF at h;rw[h]at h1;cases h1;exact⟨i,h3,by rw[h2];omega,rfl⟩
 rw[h2]at hi
 subst h1
 refine Pure.runk (fun _=>0) Tryz.func55 comp55 era55 (Nat.le_of_ble_eq_true rfl) fun σ=> ?_
 repeat'(first|exact .nil|refine .k0 ?_|refine .k1 ?_|refine .k2 ?_|refine .r1 ?_ ?_|(refine .l1 ?_;intro b)|(refine .m1 ?_ ?_;intro b)|fail)
 all_goals(try simp only[BL]at *)
 refine VX_callA rfl (fun _=>hi _ _ _ _) OB.nil ?_
 repeat'(first|exact .nil|refine .k0 ?_|refine .k1 ?_|refine .k2 ?_|refine .k7 ?_|refine .k9 ?_|(refine .cd ?_ ?_<;>(intro hc;skip))|refine .r1 ?_ ?_|refine .t1 ?_ ?_ ?_|fail)
 try any_goals(exact Zo)
 all_goals(try simp only[BL]at *)
 all_goals first|(exfalso;omega)|((refine Sx.Fin.wk Zs ?_;repeat' first|exact .refl _|fail))|fail
theorem feature_none(c:Cat)(n:Str)(h:findF c.features n=none):Pure Tryz.prog 24 [.agg c.cells,sv n] (.tup [.agg feaZ,.v (.bool false)]):=by
 refine Pure.runk (fun _=>0) Tryz.func24 comp24 era24 (Nat.le_of_ble_eq_true rfl) fun σ=> ?_
 repeat'(first|exact .nil|refine .k0 ?_|refine .k1 ?_|refine .k2 ?_|refine .k7 ?_|refine .r1 ?_ ?_|(refine .l1 ?_;intro b)|(refine .m1 ?_ ?_;intro b)|refine .an rfl (by intro hob;exact find_none _ _ h) ?_ ?_|fail)
 all_goals(try simp only[BL]at *)
 all_goals first|((refine Sx.Fin.wk Zs ?_;repeat' first|exact .refl _|fail))|fail
theorem feature_some(c:Cat)(n:Str)(f:Fea)(h:findF c.features n=some f):Pure Tryz.prog 24 [.agg c.cells,sv n] (.tup [.agg f.cells,.v (.bool true)]):=by
 refine Pure.runk (fun _=>0) Tryz.func24 comp24 era24 (Nat.le_of_ble_eq_true rfl) fun σ=> ?_
 repeat'(first|exact .nil|refine .k0 ?_|refine .k1 ?_|refine .k2 ?_|refine .k7 ?_|refine .r1 ?_ ?_|(refine .l1 ?_;intro b)|(refine .m1 ?_ ?_;intro b)|refine .an rfl (by intro hob;exact find_some _ _ _ h) ?_ ?_|fail)
 all_goals(try simp only[BL]at *)
 all_goals first|((refine Sx.Fin.wk Zs ?_;repeat' first|exact .refl _|fail))|fail
end Go.Proofs.YtekngilbecjkhaaGreatDoor
