
/- The laws' own functions: sizes, the example. -/
import Derived.Test.YtekngilbecjkhaaGreatDoorEa
import Derived.Test.YtekngilbecjkhaaGreatDoorCr
set_option linter.unusedSimpArgs false
set_option linter.unusedVariables false
set_option maxRecDepth 100000
set_option maxHeartbeats 4000000
namespace Go.Sx
theorem Wk.flr {ez : Nat} {rows rows' : List (List AV)} {nn : Bool} (h : rows = rows') : Wk (.fl ez rows) (.sl nn ez rows') := h ▸ fun _ _ h => h.fl_sl nn
end Go.Sx
namespace Go.Proofs.YtekngilbecjkhaaGreatDoor
open Go.Sx Go.Proofs Go.Tb
mutual
def szE : Ex → Int → Int
  | .mk _ _ _ _ _ _ _ _ ks, m => szL ks m 1
def szL : List Ex → Int → Int → Int
  | [], _, n => n
  | x :: l, m, n => if n ≤ m then szL l m (n + szE x (m - n)) else n
end
theorem szE_eq (x : Ex) (m : Int) : szE x m = szL x.args m 1 := by cases x; rw [szE]; rfl
mutual
theorem szE_pos : ∀ (x : Ex) (m : Int), 1 ≤ szE x m ∧ szE x m ≤ max m 0 + 1
  | .mk _ _ _ _ _ _ _ _ ks, m => by
    rw [szE]
    have := szL_pos ks m 1 (by omega) (by omega)
    omega
theorem szL_pos : ∀ (l : List Ex) (m n : Int), 1 ≤ n → n ≤ max m 0 + 1 → 1 ≤ szL l m n ∧ szL l m n ≤ max m 0 + 1
  | [], m, n, h1, h2 => by rw [szL]; omega
  | x :: l, m, n, h1, h2 => by
    rw [szL]
    split
    · rename_i h
      have := szE_pos x (m - n)
      exact szL_pos l m _ (by omega) (by omega)
    · omega
end
mutual
theorem szE_size : ∀ (x : Ex) (m : Int), szE x m ≤ m → (x.size : Int) = szE x m
  | .mk _ _ _ _ _ _ _ _ ks, m, h => by
    rw [szE] at h ⊢
    rw [Ex.size]
    have := szL_size ks m 1 h
    omega
theorem szL_size : ∀ (l : List Ex) (m n : Int), szL l m n ≤ m → szL l m n = n + (Ex.sizeL l : Int)
  | [], m, n, h => by rw [szL, Ex.sizeL]; simp
  | x :: l, m, n, h => by
    rw [szL] at h ⊢
    by_cases hn : n ≤ m
    · rw [if_pos hn] at h ⊢
      have h1 := szL_size l m _ h
      have h2 := szE_size x (m - n) (by have : 0 ≤ (Ex.sizeL l : Int) := Int.natCast_nonneg _; omega)
      rw [h1, Ex.sizeL]
      omega
    · rw [if_neg hn] at h; omega
end
mutual
theorem feats_size : ∀ x : Ex, x.feats.length ≤ x.size ∧ x.tabs.length ≤ x.size
  | .mk k _ n t _ _ _ _ ks => by
    have h := featsL_size ks
    rw [Ex.feats, Ex.tabs, Ex.size, List.length_append, List.length_append]
    have h1 : (if k = 3 ∨ k = 4 then [n] else []).length ≤ 1 := by split <;> simp
    have h2 : (if k = 5 then [t] else []).length ≤ 1 := by split <;> simp
    omega
theorem featsL_size : ∀ l : List Ex, (Ex.featsL l).length ≤ Ex.sizeL l ∧ (Ex.tabsL l).length ≤ Ex.sizeL l
  | [] => by simp [Ex.featsL, Ex.tabsL, Ex.sizeL]
  | x :: l => by
    have h1 := feats_size x
    have h2 := featsL_size l
    rw [Ex.featsL, Ex.tabsL, Ex.sizeL, List.length_append, List.length_append]; omega
end
theorem szL_gt (l : List Ex) {m n : Int} (h : ¬ n ≤ m) : szL l m n = n := by
  cases l with
  | nil => rw [szL]
  | cons x l => rw [szL, if_neg h]
theorem szL_app : ∀ (a b : List Ex) (m n : Int), szL (a ++ b) m n = if szL a m n ≤ m then szL b m (szL a m n) else szL a m n
  | [], b, m, n => by
    rw [List.nil_append, szL]
    split
    · rfl
    · rename_i h; exact szL_gt b h
  | x :: a, b, m, n => by
    rw [List.cons_append, szL, szL]
    by_cases hn : n ≤ m
    · rw [if_pos hn, if_pos hn]; exact szL_app a b m _
    · rw [if_neg hn, if_neg hn, if_neg hn]
theorem szL_take {l : List Ex} {i : Nat} (hi : i < l.length) {m n : Int} (h : szL (l.take i) m n ≤ m) : szL (l.take (i + 1)) m n = szL (l.take i) m n + szE (l.getD i default) (m - szL (l.take i) m n) := by
  rw [List.take_succ_eq_append_getElem hi, szL_app, if_pos h, getD_eq hi, szL, if_pos h, szL]
theorem szL_stop {l : List Ex} {i : Nat} {m n : Int} (h : ¬ szL (l.take i) m n ≤ m) : szL l m n = szL (l.take i) m n := by
  have := szL_app (l.take i) (l.drop i) m n
  rwa [List.take_append_drop, if_neg h] at this
def SzOK (x : Ex) : Prop := ∀ m : Int, -10000 ≤ m → m ≤ 10000 → Pure Tryz.prog 14 [.agg x.row, iv m] (iv (szE x m))
theorem size_step (x : Ex) (ih : ∀ i, i < x.args.length → SzOK (x.args.getD i default)) : SzOK x := fun m hm hm2 => by
  rw [Ex.row_eq x, szE_eq]
  refine Pure.runk (fun _ => 0) Tryz.func14 comp14 era14 (Nat.le_of_ble_eq_true rfl) fun σ => ?_
  repeat' (first | exact .nil | refine .k0 ?_ | refine .k1 ?_ | refine .k2 ?_ | refine .k6 ?_ | refine .r1 ?_ ?_ | (refine .m1 ?_ ?_; intro b) | fail)
  try any_goals ((intro hob; fail))
  all_goals (try simp only [BL] at *)
  refine WK_loop (fun n rg σ' => ∃ i : Nat, i ≤ x.args.length ∧ n = x.args.length - i ∧ σ' = (2, b, Blk.cells x.lay) :: σ ∧ rg = [(1, iv m), (2, .lp 2 b 0), (5, iv (szL (x.args.take i) m 1)), (6, iv i)]) x.args.length rfl ⟨_, _, by repeat' first | exact .refl _ | fail, by repeat' first | exact .refl _ | fail, 0, Nat.zero_le _, rfl, rfl, by rw [List.take_zero, szL]; rfl⟩ ?_
  rintro n _ _ ⟨i, hi, hn, rfl, rfl⟩
  have hp := szL_pos (x.args.take i) m 1 (by omega) (by omega)
  have hq := szE_pos (x.args.getD i default) (m - szL (x.args.take i) m 1)
  have hA := fun (h : i < x.args.length) (h2 : szL (x.args.take i) m 1 ≤ m) => (show Pure Tryz.prog 14 [.agg (x.args.getD i default).row, iv (IntKind.i64.wrap (m - szL (x.args.take i) m 1))] (iv (szE (x.args.getD i default) (m - szL (x.args.take i) m 1))) by rw [i64w (by omega)]; exact ih i h _ (by omega) (by omega))
  have hq := szE_pos (x.args.getD i default) (m - szL (x.args.take i) m 1)
  repeat' (first | exact .nil | refine .k0 ?_ | refine .k1 ?_ | refine .k2 ?_ | refine .k4 ?_ | refine .k6 ?_ | refine .k7 ?_ | refine .k8 ?_ | refine .k9 ?_ | (refine .cd ?_ ?_ <;> (intro hc; skip)) | refine .r1 ?_ ?_ | (refine .m2 ?_ ?_; intro hlen) | refine .t1 ?_ ?_ ?_ | refine .an rfl (by intro hob; exact hA (by (simp only [BL] at *; omega)) (by (simp only [BL] at *; omega))) ?_ ?_ | fail)
  try any_goals ((intro hob; first | (simp_all; done) | fail))
  all_goals (try simp only [BL] at *)
  · refine ⟨x.args.length - (i + 1), by omega, _, _, by repeat' first | exact .refl _ | fail, by repeat' first | exact .refl _ | fail, i + 1, by omega, rfl, rfl, ?_⟩
    rw [szL_take (by omega) (by omega), i64w (n := szL (x.args.take i) m 1 + _) (by omega), up1 (n := x.args.length) (by omega) (by assumption)]
  · have e : szL x.args m 1 = szL (x.args.take i) m 1 := by
      by_cases h : szL (x.args.take i) m 1 ≤ m
      · rw [List.take_of_length_le (l := x.args) (by omega)]
      · exact szL_stop (l := x.args) h
    rw [e]
    (refine Sx.Fin.wk (by repeat' first | exact .refl _ | refine .cons ?_) ?_; repeat' first | exact .refl _ | fail)
theorem size_all : ∀ (n : Nat) (x : Ex), x.size ≤ n → SzOK x
  | 0, x, h => by cases x; simp [Ex.size] at h
  | n + 1, x, h => size_step x fun k hk => size_all n _ (by have := Ex.size_arg x hk; omega)
theorem sizeX_ok (x : Ex) : SzOK x := size_all x.size x (Nat.le_refl _)
def Cat.all (c : Cat) : List Fea := c.features ++ c.drafts ++ c.past
structure Small (c : Cat) : Prop where
  t : c.tables.length ≤ 40
  f : c.features.length ≤ 40
  d : c.drafts.length ≤ 40
  p : c.past.length ≤ 40
  n : szL (c.all.map Fea.body) 2000 0 ≤ 2000
theorem small_iff (c : Cat) : Small c ↔ (c.tables.length ≤ 40 ∧ c.features.length ≤ 40 ∧ c.drafts.length ≤ 40 ∧ c.past.length ≤ 40 ∧ szL (c.all.map Fea.body) 2000 0 ≤ 2000) := ⟨fun h => ⟨h.t, h.f, h.d, h.p, h.n⟩, fun ⟨a, b, c, d, e⟩ => ⟨a, b, c, d, e⟩⟩
instance (c : Cat) : Decidable (Small c) := decidable_of_iff _ (small_iff c).symm
theorem szS_take {l : List Fea} {i : Nat} (hi : i < l.length) {m n : Int} (h : szL ((l.map Fea.body).take i) m n ≤ m) : szL ((l.map Fea.body).take (i + 1)) m n = szL ((l.map Fea.body).take i) m n + szE (l.getD i default).body (m - szL ((l.map Fea.body).take i) m n) := by
  have h0 : i < (l.map Fea.body).length := by rw [List.length_map]; exact hi
  rw [szL_take h0 h]
  congr 2
  rw [getD_eq hi, getD_eq h0, List.getElem_map]
theorem szS_pos (l : List Ex) : 0 ≤ szL l 2000 0 ∧ szL l 2000 0 ≤ 2001 := by
  cases l with
  | nil => rw [szL]; omega
  | cons x l =>
    rw [szL, if_pos (by omega)]
    have h1 := szE_pos x (2000 - 0)
    have h2 := szL_pos l 2000 (0 + szE x (2000 - 0)) (by omega) (by omega)
    omega
theorem fea_one (l : List Fea) : ((l.map Fea.cells).all fun r => r.all AV.one) = true := by
  rw [List.all_map, List.all_eq_true]; intro x _; rfl
theorem small_ok (C : Cat) : Pure Tryz.prog 10 [.agg C.cells] (.v (.bool (decide (Small C)))) := by
  refine Pure.runk (fun d => bif ([28] : List Nat).elem d then 3 else 0) Tryz.func10 comp10 era10 (Nat.le_of_ble_eq_true rfl) fun σ => ?_
  repeat' (first | exact .nil | refine .k0 ?_ | refine .k1 ?_ | refine .k2 ?_ | refine .k3 ?_ | refine .k4 ?_ | refine .k6 ?_ | refine .k7 ?_ | refine .k9 ?_ | (refine .cd ?_ ?_ <;> (intro hc; skip)) | refine .r1 ?_ ?_ | (refine .m1 ?_ ?_; intro b) | (refine .m2 ?_ ?_; intro hlen) | refine .u2 ?_ ?_ ?_ (fun b u c => ?_) | refine .u3 ?_ ?_ (fun hr0 => ?_) (fun hr1 b u c => ?_) | refine .r8 ?_ ?_ | fail)
  try any_goals ((intro hob; first | (simp_all; done) | fail))
  all_goals (try simp only [BL] at *)
  · refine Sx.Fin.intro (by repeat' first | exact .refl _ | refine .cons ?_) (bf ?_)
    intro h; have h1 := h.t; have h2 := h.f; have h3 := h.d; have h4 := h.p; omega
  any_goals exact fea_one _
  any_goals (show _ ≤ 1000000; decide)
  any_goals (show _ * 248 ≤ _; simp only [List.length_append, List.length_map, List.length_nil]; omega)
  all_goals
    refine WK_loop (fun n rg σ' => ∃ i : Nat, i ≤ C.all.length ∧ n = C.all.length - i ∧ σ' = σ ∧ rg = [(3, iv (szL ((C.all.map Fea.body).take i) 2000 0)), (4, .sl false 18 (C.all.map Fea.cells)), (5, iv i)]) C.all.length rfl ?_ ?_
    · refine ⟨[(3, iv 0), (4, .sl false 18 (C.all.map Fea.cells)), (5, iv (0 : Nat))], σ, ?_, by repeat' first | exact .refl _ | refine .cons ?_, 0, Nat.zero_le _, rfl, rfl, by rw [List.take_zero, szL]⟩
      refine .cons (Wk.refl _) (.cons ?_ (.cons (Wk.refl _) .nil))
      first | exact .flr (by simp [Cat.all, *]) | exact .ownr (by simp [Cat.all, *])
    rintro n _ _ ⟨i, hi, hn, rfl, rfl⟩
    have hp := szS_pos ((C.all.map Fea.body).take i)
    have hq := szE_pos (C.all.getD i default).body (2000 - szL ((C.all.map Fea.body).take i) 2000 0)
    have hA := fun (h : i < C.all.length) (h2 : szL ((C.all.map Fea.body).take i) 2000 0 ≤ 2000) => (show Pure Tryz.prog 14 [.agg (C.all.getD i default).body.row, iv (IntKind.i64.wrap (2000 - szL ((C.all.map Fea.body).take i) 2000 0))] (iv (szE (C.all.getD i default).body (2000 - szL ((C.all.map Fea.body).take i) 2000 0))) by rw [i64w (by omega)]; exact sizeX_ok _ _ (by omega) (by omega))
    repeat' (first | exact .nil | refine .k0 ?_ | refine .k1 ?_ | refine .k2 ?_ | refine .k4 ?_ | refine .k6 ?_ | refine .k7 ?_ | refine .k8 ?_ | refine .k9 ?_ | (refine .cd ?_ ?_ <;> (intro hc; skip)) | refine .r1 ?_ ?_ | (refine .m2 ?_ ?_; intro hlen) | refine .t1 ?_ ?_ ?_ | refine .an rfl (by intro hob; exact hA (by (simp only [BL] at *; omega)) (by (simp only [BL] at *; omega))) ?_ ?_ | fail)
    try any_goals ((intro hob; first | (simp_all; done) | fail))
    all_goals (try simp only [BL] at *)
    all_goals first
      | (refine ⟨C.all.length - (i + 1), by omega, _, _, by repeat' first | exact .refl _ | fail, by repeat' first | exact .refl _ | fail, i + 1, by omega, rfl, rfl, ?_⟩
         rw [szS_take (by omega) (by omega), i64w (n := szL ((C.all.map Fea.body).take i) 2000 0 + _) (by omega), up1 (n := C.all.length) (by omega) (by assumption)])
      | (have e : szL (C.all.map Fea.body) 2000 0 = szL ((C.all.map Fea.body).take i) 2000 0 := by
           by_cases h : szL ((C.all.map Fea.body).take i) 2000 0 ≤ 2000
           · rw [List.take_of_length_le (l := C.all.map Fea.body) (by rw [List.length_map]; omega)]
           · exact szL_stop (l := C.all.map Fea.body) h
         have e2 : decide (Small C) = decide (szL ((C.all.map Fea.body).take i) 2000 0 ≤ 2000) := by
           rw [decide_eq_decide, small_iff, e]
           exact ⟨fun h => h.2.2.2.2, fun h => ⟨by omega, by omega, by omega, by omega, h⟩⟩
         rw [e2]
         (refine Sx.Fin.wk (by repeat' first | exact .refl _ | fail) ?_; repeat' first | exact .refl _ | fail))
end Go.Proofs.YtekngilbecjkhaaGreatDoor
