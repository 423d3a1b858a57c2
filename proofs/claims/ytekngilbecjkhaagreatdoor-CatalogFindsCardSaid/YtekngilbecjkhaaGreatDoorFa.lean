/- Same units, types, expressions, tables, features: of one and the same. -/
import Derived.Test.YtekngilbecjkhaaGreatDoorEh
set_option linter.unusedSimpArgs false
set_option linter.unusedVariables false
set_option maxRecDepth 100000
set_option maxHeartbeats 4000000
namespace Go.Proofs.YtekngilbecjkhaaGreatDoor
open Go.Sx Go.Proofs Go.Tb
theorem sameUnit_t (u : List Fac) : Pure Tryz.prog 59 [.sl false 2 (u.map Fac.cells), .sl false 2 (u.map Fac.cells)] (.v (.bool true)) := by
  refine Pure.runk (fun _ => 0) Tryz.func59 comp59 era59 (Nat.le_of_ble_eq_true rfl) fun σ => ?_
  repeat' (first | exact .nil | refine .k0 ?_ | refine .k1 ?_ | refine .k2 ?_ | refine .k6 ?_ | refine .k7 ?_ | refine .k9 ?_ | (refine .cd ?_ ?_ <;> (intro hc; skip)) | refine .r1 ?_ ?_ | (refine .m2 ?_ ?_; intro hlen) | fail)
  try any_goals ((intro hob; fail))
  all_goals (try simp only [BL] at *)
  all_goals first | (exfalso; exact hc trivial) | skip
  refine WK_loop (fun n rg σ' => ∃ i : Nat, i ≤ u.length ∧ n = u.length - i ∧ σ' = σ ∧ rg = [(0, .sl false 2 (u.map Fac.cells)), (1, .sl false 2 (u.map Fac.cells)), (5, iv i)]) u.length rfl ⟨_, _, by repeat' first | exact .refl _ | fail, by repeat' first | exact .refl _ | fail, 0, Nat.zero_le _, rfl, rfl, rfl⟩ ?_
  rintro n _ _ ⟨i, hi, hn, rfl, rfl⟩
  repeat' (first | exact .nil | refine .k0 ?_ | refine .k1 ?_ | refine .k2 ?_ | refine .k5 ?_ | refine .k6 ?_ | refine .k7 ?_ | refine .k8 ?_ | refine .k9 ?_ | (refine .cd ?_ ?_ <;> (intro hc; skip)) | refine .r1 ?_ ?_ | (refine .m2 ?_ ?_; intro hlen) | refine .t1 ?_ ?_ ?_ | fail)
  try any_goals ((intro hob; first | (simp_all; done) | fail))
  all_goals (try simp only [BL] at *)
  all_goals first | (exfalso; simp at hc; done) | (refine ⟨u.length - (i + 1), by omega, _, _, by repeat' first | exact .refl _ | fail, by repeat' first | exact .refl _ | fail, i + 1, by omega, rfl, rfl, by rw [up1 (n := u.length) (by omega) (by assumption)]⟩) | (show Sx.Fin _ _ _ _; (refine Sx.Fin.wk (by repeat' first | exact .refl _ | fail) ?_; repeat' first | exact .refl _ | fail); done) | fail
theorem sameType_t (t : Ty) : Pure Tryz.prog 28 [.agg t.cells, .agg t.cells] (.v (.bool true)) := by
  refine Pure.runk (fun _ => 0) Tryz.func28 comp28 era28 (Nat.le_of_ble_eq_true rfl) fun σ => ?_
  repeat' (first | exact .nil | refine .k0 ?_ | refine .k1 ?_ | refine .k2 ?_ | refine .k4 ?_ | refine .k7 ?_ | refine .r1 ?_ ?_ | (refine .m1 ?_ ?_; intro b) | refine .an rfl (by intro hob; exact sameUnit_t _) ?_ ?_ | fail)
  try any_goals ((intro hob; fail))
  all_goals (try simp only [BL] at *)
  show Sx.Fin _ (AV.v (Value.bool true)) (AV.v (Value.bool true)) _
  (refine Sx.Fin.wk (by repeat' first | exact .refl _ | refine .cons ?_) ?_; repeat' first | exact .refl _ | fail)
def SameX (x : Ex) : Prop := Pure Tryz.prog 61 [.agg x.row, .agg x.row] (.v (.bool true))
theorem sameX_step (x : Ex) (ih : ∀ i, i < x.args.length → SameX (x.args.getD i default)) : SameX x := by
  unfold SameX
  rw [Ex.row_eq x]
  refine Pure.runk (fun _ => 0) Tryz.func61 comp61 era61 (Nat.le_of_ble_eq_true rfl) fun σ => ?_
  repeat' (first | exact .nil | refine .k0 ?_ | refine .k1 ?_ | refine .k2 ?_ | refine .k4 ?_ | refine .k6 ?_ | refine .k7 ?_ | refine .k9 ?_ | (refine .cd ?_ ?_ <;> (intro hc; skip)) | refine .r1 ?_ ?_ | (refine .m1 ?_ ?_; intro b) | (refine .m2 ?_ ?_; intro hlen) | refine .an rfl (by intro hob; exact sameUnit_t _) ?_ ?_ | fail)
  try any_goals ((intro hob; first | (simp_all; done) | fail))
  all_goals (try simp only [BL] at *)
  · exfalso; simp at hc
  clear hc
  rename_i b2 _
  refine WK_loop (fun n rg σ' => ∃ i : Nat, i ≤ x.args.length ∧ n = x.args.length - i ∧ σ' = (3, b, Blk.cells x.lay) :: (2, b2, Blk.cells x.lay) :: σ ∧ rg = [(2, .lp 2 b2 0), (3, .lp 3 b 0), (5, iv i)]) x.args.length rfl ⟨_, _, by repeat' first | exact .refl _ | fail, by repeat' first | exact .refl _ | fail, 0, Nat.zero_le _, rfl, rfl, rfl⟩ ?_
  rintro n _ _ ⟨i, hi, hn, rfl, rfl⟩
  have hA : i < x.args.length → Pure Tryz.prog 61 [.agg (x.args.getD i default).row, .agg (x.args.getD i default).row] (.v (.bool true)) := ih i
  repeat' (first | exact .nil | refine .k0 ?_ | refine .k1 ?_ | refine .k2 ?_ | refine .k5 ?_ | refine .k6 ?_ | refine .k7 ?_ | refine .k8 ?_ | refine .k9 ?_ | (refine .cd ?_ ?_ <;> (intro hc; skip)) | refine .r1 ?_ ?_ | (refine .m2 ?_ ?_; intro hlen) | refine .t1 ?_ ?_ ?_ | refine .an rfl (by intro hob; first | exact hA (by (simp only [BL] at *; omega)) | fail) ?_ ?_ | fail)
  try any_goals ((intro hob; first | (simp_all; done) | fail))
  all_goals (try simp only [BL] at *)
  all_goals first | (exfalso; simp at hc; done) | (refine ⟨x.args.length - (i + 1), by omega, _, _, by repeat' first | exact .refl _ | fail, by repeat' first | exact .refl _ | fail, i + 1, by omega, rfl, rfl, by rw [up1 (n := x.args.length) (by omega) (by assumption)]⟩) | (show Sx.Fin _ _ _ _; (refine Sx.Fin.wk (by repeat' first | exact .refl _ | refine .cons ?_) ?_; repeat' first | exact .refl _ | fail); done) | fail
theorem sameX_all : ∀ (n : Nat) (x : Ex), x.size ≤ n → SameX x
  | 0, x, h => by cases x; simp [Ex.size] at h
  | n + 1, x, h => sameX_step x fun k hk => sameX_all n _ (by have := Ex.size_arg x hk; omega)
theorem sameX_t (x : Ex) : Pure Tryz.prog 61 [.agg x.row, .agg x.row] (.v (.bool true)) := sameX_all x.size x (Nat.le_refl _)
theorem sameFea_t (f : Fea) : Pure Tryz.prog 35 [.agg f.cells, .agg f.cells] (.v (.bool true)) := by
  refine Pure.runk (fun _ => 0) Tryz.func35 comp35 era35 (Nat.le_of_ble_eq_true rfl) fun σ => ?_
  repeat' (first | exact .nil | refine .k0 ?_ | refine .k1 ?_ | refine .k2 ?_ | refine .k4 ?_ | refine .k7 ?_ | refine .r1 ?_ ?_ | (refine .m1 ?_ ?_; intro b) | refine .an rfl (by intro hob; first | exact sameType_t _ | exact sameX_t _) ?_ ?_ | fail)
  try any_goals ((intro hob; fail))
  all_goals (try simp only [BL] at *)
  show Sx.Fin _ (AV.v (Value.bool true)) (AV.v (Value.bool true)) _
  (refine Sx.Fin.wk (by repeat' first | exact .refl _ | refine .cons ?_) ?_; repeat' first | exact .refl _ | fail)
theorem sameTab_t (t : Tab) : Pure Tryz.prog 34 [.agg t.cells, .agg t.cells] (.v (.bool true)) := by
  refine Pure.runk (fun _ => 0) Tryz.func34 comp34 era34 (Nat.le_of_ble_eq_true rfl) fun σ => ?_
  repeat' (first | exact .nil | refine .k0 ?_ | refine .k1 ?_ | refine .k2 ?_ | refine .k4 ?_ | refine .k6 ?_ | refine .k7 ?_ | refine .k9 ?_ | (refine .cd ?_ ?_ <;> (intro hc; skip)) | refine .r1 ?_ ?_ | (refine .m1 ?_ ?_; intro b) | (refine .m2 ?_ ?_; intro hlen) | fail)
  try any_goals ((intro hob; first | (simp_all; done) | fail))
  all_goals (try simp only [BL] at *)
  · exfalso; simp at hc
  clear hc
  rename_i b2 _
  refine WK_loop (fun n rg σ' => ∃ i : Nat, i ≤ t.fields.length ∧ n = t.fields.length - i ∧ σ' = (3, b, Blk.cells t.cells) :: (2, b2, Blk.cells t.cells) :: σ ∧ rg = [(2, .lp 2 b2 0), (3, .lp 3 b 0), (5, iv i)]) t.fields.length rfl ⟨_, _, by repeat' first | exact .refl _ | fail, by repeat' first | exact .refl _ | fail, 0, Nat.zero_le _, rfl, rfl, rfl⟩ ?_
  rintro n _ _ ⟨i, hi, hn, rfl, rfl⟩
  repeat' (first | exact .nil | refine .k0 ?_ | refine .k1 ?_ | refine .k2 ?_ | refine .k3 ?_ | refine .k5 ?_ | refine .k6 ?_ | refine .k7 ?_ | refine .k8 ?_ | refine .k9 ?_ | (refine .cd ?_ ?_ <;> (intro hc; skip)) | refine .r1 ?_ ?_ | (refine .m2 ?_ ?_; intro hlen) | refine .t1 ?_ ?_ ?_ | refine .an rfl (by intro hob; exact sameType_t (t.fields.getD i default).type) ?_ ?_ | fail)
  try any_goals ((intro hob; first | (simp_all; done) | fail))
  all_goals (try simp only [BL] at *)
  all_goals first | (exfalso; exact hc trivial) | (refine ⟨t.fields.length - (i + 1), by omega, _, _, by repeat' first | exact .refl _ | fail, by repeat' first | exact .refl _ | fail, i + 1, by omega, rfl, rfl, by rw [up1 (n := t.fields.length) (by omega) (by assumption)]⟩) | (show Sx.Fin _ _ _ _; (refine Sx.Fin.wk (by repeat' first | exact .refl _ | refine .cons ?_) ?_; repeat' first | exact .refl _ | fail); done) | fail
end Go.Proofs.YtekngilbecjkhaaGreatDoor

/- CatalogFinds. -/
set_option linter.unusedSimpArgs false
set_option linter.unusedVariables false
set_option maxRecDepth 100000
set_option maxHeartbeats 4000000
namespace Go.Sx
theorem Pure.wkr {P : Program} [Glob P] {f : FuncId} {xs : List AV} {r r' : AV} (h : Pure P f xs r) (hw : Wk r r') : Pure P f xs r' :=
  ⟨fun σ => (h.sp σ).weak fun q σ' ⟨e1, e2⟩ => ⟨.ret r', σ, ⟨rfl, rfl⟩, by subst e2; exact .refl _, by subst e1; exact hw⟩⟩
end Go.Sx
namespace Go.Proofs.YtekngilbecjkhaaGreatDoor
open Go.Sx Go.Proofs Go.Tb
def zfe : Fea := ⟨s0, s0, ⟨0, [], s0⟩, ⟨0, s0, s0, s0, ⟨0, 0, s0⟩, [], 0, ⟨0, 0⟩, []⟩, 0⟩
def zta : Tab := ⟨s0, s0, [], 0⟩
def gotF (o : Option Fea) : AV := .tup [.agg (o.getD zfe).cells, .v (.bool o.isSome)]
theorem got_wk (o : Option Fea) : Wk (foundF o) (gotF o) := by
  cases o with
  | some f => exact Wk.refl _
  | none =>
    refine .tup (.cons (.agg ?_) (.cons (Wk.refl _) .nil))
    repeat' first | exact .refl _ | exact .nil | refine .cons ?_ ?_
theorem findC_ok (fs : List Fea) (n : Str) : Pure Tryz.prog 55 [.sl false 18 (fs.map Fea.cells), sv n] (gotF (findF fs n)) := by
  cases h : findF fs n with
  | none => exact (find_none fs n h).wkr (got_wk none)
  | some f => exact (find_some fs n f h).wkr (got_wk (some f))
theorem findR_ok (fs : List Fea) (n : Str) : Pure Tryz.prog 60 [.sl false 18 (fs.map Fea.cells), sv n] (gotF (findF fs n)) := (find12_ok fs n _ rfl).wkr (got_wk _)
theorem featC_ok (c : Cat) (n : Str) : Pure Tryz.prog 24 [.agg c.cells, sv n] (gotF (findF c.features n)) := by
  refine Pure.runk (fun _ => 0) Tryz.func24 comp24 era24 (Nat.le_of_ble_eq_true rfl) fun σ => ?_
  repeat' (first | exact .nil | refine .k0 ?_ | refine .k1 ?_ | refine .k2 ?_ | refine .k7 ?_ | refine .r1 ?_ ?_ | (refine .l1 ?_; intro b) | (refine .m1 ?_ ?_; intro b) | refine .an rfl (by intro hob; first | exact findC_ok _ _ | fail) ?_ ?_ | fail)
  try any_goals ((intro hob; fail))
  all_goals (try simp only [BL] at *)
  (refine Sx.Fin.wk (by repeat' first | exact .refl _ | refine .cons ?_) ?_; repeat' first | exact .refl _ | fail)
theorem draftC_ok (c : Cat) (n : Str) : Pure Tryz.prog 32 [.agg c.cells, sv n] (gotF (findF c.drafts n)) := by
  refine Pure.runk (fun _ => 0) Tryz.func32 comp32 era32 (Nat.le_of_ble_eq_true rfl) fun σ => ?_
  repeat' (first | exact .nil | refine .k0 ?_ | refine .k1 ?_ | refine .k2 ?_ | refine .k7 ?_ | refine .r1 ?_ ?_ | (refine .l1 ?_; intro b) | (refine .m1 ?_ ?_; intro b) | refine .an rfl (by intro hob; first | exact findC_ok _ _ | fail) ?_ ?_ | fail)
  try any_goals ((intro hob; fail))
  all_goals (try simp only [BL] at *)
  (refine Sx.Fin.wk (by repeat' first | exact .refl _ | refine .cons ?_) ?_; repeat' first | exact .refl _ | fail)
theorem featR_ok (c : Cat) (n : Str) : Pure Tryz.prog 31 [.agg c.cells, sv n] (gotF (findF c.features n)) := by
  refine Pure.runk (fun _ => 0) Tryz.func31 comp31 era31 (Nat.le_of_ble_eq_true rfl) fun σ => ?_
  repeat' (first | exact .nil | refine .k0 ?_ | refine .k1 ?_ | refine .k2 ?_ | refine .k7 ?_ | refine .r1 ?_ ?_ | (refine .l1 ?_; intro b) | (refine .m1 ?_ ?_; intro b) | refine .an rfl (by intro hob; exact findR_ok _ _) ?_ ?_ | fail)
  try any_goals ((intro hob; fail))
  all_goals (try simp only [BL] at *)
  (refine Sx.Fin.wk (by repeat' first | exact .refl _ | refine .cons ?_) ?_; repeat' first | exact .refl _ | fail)
theorem draftR_ok (c : Cat) (n : Str) : Pure Tryz.prog 33 [.agg c.cells, sv n] (gotF (findF c.drafts n)) := by
  refine Pure.runk (fun _ => 0) Tryz.func33 comp33 era33 (Nat.le_of_ble_eq_true rfl) fun σ => ?_
  repeat' (first | exact .nil | refine .k0 ?_ | refine .k1 ?_ | refine .k2 ?_ | refine .k7 ?_ | refine .r1 ?_ ?_ | (refine .l1 ?_; intro b) | (refine .m1 ?_ ?_; intro b) | refine .an rfl (by intro hob; exact findR_ok _ _) ?_ ?_ | fail)
  try any_goals ((intro hob; fail))
  all_goals (try simp only [BL] at *)
  (refine Sx.Fin.wk (by repeat' first | exact .refl _ | refine .cons ?_) ?_; repeat' first | exact .refl _ | fail)
def findT (ts : List Tab) (n : Str) : Option Tab := ts.find? fun t => decide (t.name = n)
def gotT (o : Option Tab) : AV := .tup [.agg (o.getD zta).cells, .v (.bool o.isSome)]
theorem findT_no {ts : List Tab} {n : Str} (h : ∀ j, j < ts.length → ¬ (ts.getD j default).name = n) : findT ts n = none := by
  unfold findT
  rw [List.find?_eq_none]
  intro x hx
  obtain ⟨j, hj, rfl⟩ := List.getElem_of_mem hx
  have := h j hj
  rw [getD_eq hj] at this
  simpa using this
theorem findT_at {ts : List Tab} {n : Str} {i : Nat} (hi : i < ts.length) (h : ∀ j, j < i → ¬ (ts.getD j default).name = n) (hn : (ts.getD i default).name = n) : findT ts n = some (ts.getD i default) := by
  unfold findT
  rw [getD_eq hi] at hn ⊢
  rw [List.find?_eq_some_iff_getElem]
  refine ⟨by simpa using hn, i, hi, rfl, fun j hj => ?_⟩
  have := h j hj
  rw [getD_eq (Nat.lt_trans hj hi)] at this
  simpa using this
abbrev tabZ : List AV := [sv s0, sv s0, nilV, iv 0]
theorem tabC_ok (c : Cat) (n : Str) : Pure Tryz.prog 29 [.agg c.cells, sv n] (gotT (findT c.tables n)) := by
  refine Pure.runk (fun _ => 0) Tryz.func29 comp29 era29 (Nat.le_of_ble_eq_true rfl) fun σ => ?_
  repeat' (first | exact .nil | refine .k0 ?_ | refine .k1 ?_ | refine .k2 ?_ | refine .k6 ?_ | refine .r1 ?_ ?_ | (refine .l1 ?_; intro b) | (refine .m1 ?_ ?_; intro b) | (refine .m2 ?_ ?_; intro hlen) | fail)
  try any_goals ((intro hob; fail))
  all_goals (try simp only [BL] at *)
  refine WK_loop (fun m rg σ' => ∃ i : Nat, i ≤ c.tables.length ∧ m = c.tables.length - i ∧ (∀ j, j < i → ¬ (c.tables.getD j default).name = n) ∧ σ' = (4, b, Blk.cells tabZ) :: σ ∧ rg = [(1, sv n), (4, .lp 4 b 0), (9, .sl false 4 (c.tables.map Tab.cells)), (10, iv c.tables.length), (11, iv i)]) c.tables.length rfl ⟨_, _, by repeat' first | exact .refl _ | fail, by repeat' first | exact .refl _ | refine .same ?_ | refine .cons ?_, 0, Nat.zero_le _, rfl, fun j hj => absurd hj (by omega), rfl, rfl⟩ ?_
  rintro m _ _ ⟨i, hi, hn, hp, rfl, rfl⟩
  repeat' (first | exact .nil | refine .k0 ?_ | refine .k1 ?_ | refine .k2 ?_ | refine .k6 ?_ | refine .k7 ?_ | refine .k8 ?_ | refine .k9 ?_ | (refine .cd ?_ ?_ <;> (intro hc; skip)) | refine .r1 ?_ ?_ | (refine .l1 ?_; intro b) | refine .t1 ?_ ?_ ?_ | fail)
  try any_goals ((intro hob; first | (simp_all; done) | fail))
  all_goals (try simp only [BL] at *)
  · rw [findT_at (by omega) hp hc]
    (refine Sx.Fin.wk (by repeat' first | exact .refl _ | refine .cons ?_) ?_; repeat' first | exact .refl _ | fail)
  · refine ⟨c.tables.length - (i + 1), by omega, _, _, by repeat' first | exact .refl _ | fail, by repeat' first | exact .refl _ | refine .cons ?_, i + 1, by omega, rfl, cons_lt hp hc, rfl, by rw [up1 (n := c.tables.length) (by omega) (by assumption)]⟩
  · rw [findT_no (fun j hj => hp j (by omega))]
    (refine Sx.Fin.wk (by repeat' first | exact .refl _ | refine .cons ?_) ?_; repeat' first | exact .refl _ | exact .nil | refine .cons ?_ ?_ | refine .tup ?_ | refine .agg ?_ | fail)
theorem tabR_ok (c : Cat) (n : Str) : Pure Tryz.prog 30 [.agg c.cells, sv n] (gotT (findT c.tables n)) := by
  refine Pure.runk (fun _ => 0) Tryz.func30 comp30 era30 (Nat.le_of_ble_eq_true rfl) fun σ => ?_
  repeat' (first | exact .nil | refine .k0 ?_ | refine .k1 ?_ | refine .k2 ?_ | refine .k6 ?_ | refine .r1 ?_ ?_ | (refine .l1 ?_; intro b) | (refine .m1 ?_ ?_; intro b) | fail)
  try any_goals ((intro hob; fail))
  all_goals (try simp only [BL] at *)
  rename_i b2
  refine WK_loop (fun m rg σ' => ∃ i : Nat, i ≤ c.tables.length ∧ m = c.tables.length - i ∧ (∀ j, j < i → ¬ (c.tables.getD j default).name = n) ∧ σ' = (4, b, Blk.cells tabZ) :: (2, b2, Blk.cells c.cells) :: σ ∧ rg = [(1, sv n), (2, .lp 2 b2 0), (4, .lp 4 b 0), (6, iv i)]) c.tables.length rfl ⟨_, _, by repeat' first | exact .refl _ | fail, by repeat' first | exact .refl _ | fail, 0, Nat.zero_le _, rfl, fun j hj => absurd hj (by omega), rfl, rfl⟩ ?_
  rintro m _ _ ⟨i, hi, hn, hp, rfl, rfl⟩
  repeat' (first | exact .nil | refine .k0 ?_ | refine .k1 ?_ | refine .k2 ?_ | refine .k6 ?_ | refine .k7 ?_ | refine .k8 ?_ | refine .k9 ?_ | (refine .cd ?_ ?_ <;> (intro hc; skip)) | refine .r1 ?_ ?_ | (refine .m2 ?_ ?_; intro hlen) | refine .t1 ?_ ?_ ?_ | fail)
  try any_goals ((intro hob; first | (simp_all; done) | fail))
  all_goals (try simp only [BL] at *)
  · rw [findT_at (by omega) hp hc]
    (refine Sx.Fin.wk (by repeat' first | exact .refl _ | refine .cons ?_) ?_; repeat' first | exact .refl _ | fail)
  · refine ⟨c.tables.length - (i + 1), by omega, _, _, by repeat' first | exact .refl _ | fail, by repeat' first | exact .refl _ | fail, i + 1, by omega, rfl, cons_lt hp hc, rfl, by rw [up1 (n := c.tables.length) (by omega) (by assumption)]⟩
  · rw [findT_no (fun j hj => hp j (by omega))]
    (refine Sx.Fin.wk (by repeat' first | exact .refl _ | refine .cons ?_) ?_; repeat' first | exact .refl _ | exact .nil | refine .cons ?_ ?_ | refine .tup ?_ | refine .agg ?_ | fail)
theorem catalogFinds_ok (c : Cat) (n : Str) : Pure Tryz.prog 9 [.agg c.cells, sv n] (.v (.bool true)) := by
  by_cases hs : Small c
  · have hS := small_t hs
    refine Pure.runk (fun _ => 0) Tryz.func9 comp9 era9 (Nat.le_of_ble_eq_true rfl) fun σ => ?_
    repeat' (first | exact .nil | refine .k0 ?_ | refine .k1 ?_ | refine .k2 ?_ | refine .k4 ?_ | refine .k7 ?_ | refine .k9 ?_ | (refine .cd ?_ ?_ <;> (intro hc; skip)) | refine .r1 ?_ ?_ | (refine .l1 ?_; intro b) | (refine .m1 ?_ ?_; intro b) | refine .an rfl (by intro hob; first | exact hS | exact tabC_ok _ _ | exact tabR_ok _ _ | exact featC_ok _ _ | exact featR_ok _ _ | exact draftC_ok _ _ | exact draftR_ok _ _ | exact sameTab_t _ | exact sameFea_t _ | exact example_ok) ?_ ?_ | fail)
    try any_goals ((intro hob; fail))
    all_goals (try simp only [BL] at *)
    all_goals first | (exfalso; exact absurd hc (by decide)) | (show Sx.Fin _ _ _ _; (try simp only [beq_self_eq_true, Bool.and_self]); (refine Sx.Fin.wk (by repeat' first | exact .refl _ | refine .cons ?_) ?_; repeat' first | exact .refl _ | fail); done)
  · have hS := small_f hs
    refine Pure.runk (fun _ => 0) Tryz.func9 comp9 era9 (Nat.le_of_ble_eq_true rfl) fun σ => ?_
    repeat' (first | exact .nil | refine .k0 ?_ | refine .k1 ?_ | refine .k2 ?_ | refine .k4 ?_ | refine .k7 ?_ | refine .k9 ?_ | (refine .cd ?_ ?_ <;> (intro hc; skip)) | refine .r1 ?_ ?_ | (refine .l1 ?_; intro b) | (refine .m1 ?_ ?_; intro b) | refine .an rfl (by intro hob; first | exact hS | exact tabC_ok _ _ | exact tabR_ok _ _ | exact featC_ok _ _ | exact featR_ok _ _ | exact draftC_ok _ _ | exact draftR_ok _ _ | exact sameTab_t _ | exact sameFea_t _ | exact example_ok) ?_ ?_ | fail)
    try any_goals ((intro hob; fail))
    all_goals (try simp only [BL] at *)
    all_goals first | (exfalso; exact absurd hc (by decide)) | (show Sx.Fin _ _ _ _; (try simp only [beq_self_eq_true, Bool.and_self]); (refine Sx.Fin.wk (by repeat' first | exact .refl _ | refine .cons ?_) ?_; repeat' first | exact .refl _ | fail); done)
end Go.Proofs.YtekngilbecjkhaaGreatDoor
