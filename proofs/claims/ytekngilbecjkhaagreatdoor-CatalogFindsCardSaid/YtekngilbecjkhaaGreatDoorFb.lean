
/- CatalogFinds. -/
import Derived.Test.YtekngilbecjkhaaGreatDoorFa
set_option linter.unusedSimpArgs false
set_option linter.unusedVariables false
set_option maxRecDepth 100000
set_option maxHeartbeats 4000000
namespace Go.Sx
theorem Pure.wkr {P : Program} [Glob P] {f : FuncId} {xs : List AV} {r r' : AV} (h : Pure P f xs r) (hw : Wk r r') : Pure P f xs r' :=
  ⟨fun σ => (h.sp σ).weak fun q σ' ⟨e1, e2⟩ => ⟨.ret r', σ, ⟨rfl, rfl⟩, by subst e2; exact .refl _, by subst e1; exact hw⟩⟩
end Go.Sx
namespace Go.Proofs.YtekngilbecjkhaaGreatDoor
open Go.Sx Go.Proofs Go.Tb
def zfe : Fea := ⟨s0, s0, ⟨0, [], s0⟩, ⟨0, s0, s0, s0, ⟨0, 0, s0⟩, [], 0, ⟨0, 0⟩, []⟩, 0⟩
def zta : Tab := ⟨s0, s0, [], 0⟩
/-- What a search by name yields. -/
def gotF (o : Option Fea) : AV := .tup [.agg (o.getD zfe).cells, .v (.bool o.isSome)]
theorem got_wk (o : Option Fea) : Wk (foundF o) (gotF o) := by
  cases o with
  | some f => exact Wk.refl _
  | none =>
    refine .tup (.cons (.agg ?_) (.cons (Wk.refl _) .nil))
    repeat' first | exact .refl _ | exact .nil | refine .cons ?_ ?_
theorem findC_ok (fs : List Fea) (n : Str) : Pure Tryz.prog 55 [.sl false 18 (fs.map Fea.cells), sv n] (gotF (findF fs n)) := by
  cases h : findF fs n with
  | none => exact (find_none fs n h).wkr (got_wk none)
  | some f => exact (find_some fs n f h).wkr (got_wk (some f))
theorem findR_ok (fs : List Fea) (n : Str) : Pure Tryz.prog 60 [.sl false 18 (fs.map Fea.cells), sv n] (gotF (findF fs n)) := (find12_ok fs n _ rfl).wkr (got_wk _)
theorem featC_ok (c : Cat) (n : Str) : Pure Tryz.prog 24 [.agg c.cells, sv n] (gotF (findF c.features n)) := by
  refine Pure.runk (fun _ => 0) Tryz.func24 comp24 era24 (Nat.le_of_ble_eq_true rfl) fun σ => ?_
  repeat' (first | exact .nil | refine .k0 ?_ | refine .k1 ?_ | refine .k2 ?_ | refine .k3 ?_ | refine .k4 ?_ | refine .k5 ?_ | refine .k6 ?_ | refine .k7 ?_ | refine .k8 ?_ | refine .k9 ?_ | (refine .cd ?_ ?_ <;> first | with_reducible exact tF | with_reducible exact fT | (intro hc; first | exact kf hc (by assumption) | exact kt hc (by assumption) | skip)) | refine .r1 ?_ ?_ | (refine .l1 ?_; intro b) | (refine .m1 ?_ ?_; intro b) | (refine .m2 ?_ ?_; intro hlen) | (refine .m3 ?_ ?_; intro hlen) | refine .t1 ?_ ?_ ?_ | refine .t2 ?_ ?_ ?_ | refine .t3 ?_ ?_ ?_ | refine .t4 ?_ ?_ ?_ | (refine .l2 ?_; intro b) | refine .u1 ?_ ?_ ?_ (fun b u c => ?_) | refine .u2 ?_ ?_ ?_ (fun b u c => ?_) | refine .u4 ?_ ?_ (fun b u c => ?_) | refine .u5 ?_ ?_ ?_ | refine .u3 ?_ ?_ (fun hr0 => ?_) (fun hr1 b u c => ?_) | refine .an rfl (by intro hob; first | exact findC_ok _ _ | exact findR_ok _ _) ?_ ?_ | refine .t5 ?_ ?_ ?_ | refine .t6 ?_ ?_ ?_ | refine .t7 ?_ ?_ ?_ | refine .r2 ?_ ?_ | refine .r3 ?_ ?_ | refine .r4 ?_ ?_ | refine .r5 ?_ ?_ | (refine .l3 ?_; intro b) | refine .r6 ?_ ?_ | refine .r7 ?_ ?_ | refine .r8 ?_ ?_ | refine .r9 ?_ ?_ | refine .ra ?_ ?_ | (show List.all _ _ = true; rfl) | (show (_ : Nat) = _; rfl))
  try any_goals ((intro hob; first | (simp_all; done) | (simp only [BL] at *; first | (simp_all; done) | omega)))
  all_goals (try simp only [BL] at *)
  (refine Sx.Fin.wk (by repeat' first | exact .refl _ | refine .same ?_ | refine .cons ?_) ?_; repeat' first | exact .refl _ | exact .nil | refine .cons ?_ ?_ | refine .tup ?_ | refine .agg ?_ | exact .sl | exact .own _)
theorem draftC_ok (c : Cat) (n : Str) : Pure Tryz.prog 32 [.agg c.cells, sv n] (gotF (findF c.drafts n)) := by
  refine Pure.runk (fun _ => 0) Tryz.func32 comp32 era32 (Nat.le_of_ble_eq_true rfl) fun σ => ?_
  repeat' (first | exact .nil | refine .k0 ?_ | refine .k1 ?_ | refine .k2 ?_ | refine .k3 ?_ | refine .k4 ?_ | refine .k5 ?_ | refine .k6 ?_ | refine .k7 ?_ | refine .k8 ?_ | refine .k9 ?_ | (refine .cd ?_ ?_ <;> first | with_reducible exact tF | with_reducible exact fT | (intro hc; first | exact kf hc (by assumption) | exact kt hc (by assumption) | skip)) | refine .r1 ?_ ?_ | (refine .l1 ?_; intro b) | (refine .m1 ?_ ?_; intro b) | (refine .m2 ?_ ?_; intro hlen) | (refine .m3 ?_ ?_; intro hlen) | refine .t1 ?_ ?_ ?_ | refine .t2 ?_ ?_ ?_ | refine .t3 ?_ ?_ ?_ | refine .t4 ?_ ?_ ?_ | (refine .l2 ?_; intro b) | refine .u1 ?_ ?_ ?_ (fun b u c => ?_) | refine .u2 ?_ ?_ ?_ (fun b u c => ?_) | refine .u4 ?_ ?_ (fun b u c => ?_) | refine .u5 ?_ ?_ ?_ | refine .u3 ?_ ?_ (fun hr0 => ?_) (fun hr1 b u c => ?_) | refine .an rfl (by intro hob; first | exact findC_ok _ _ | exact findR_ok _ _) ?_ ?_ | refine .t5 ?_ ?_ ?_ | refine .t6 ?_ ?_ ?_ | refine .t7 ?_ ?_ ?_ | refine .r2 ?_ ?_ | refine .r3 ?_ ?_ | refine .r4 ?_ ?_ | refine .r5 ?_ ?_ | (refine .l3 ?_; intro b) | refine .r6 ?_ ?_ | refine .r7 ?_ ?_ | refine .r8 ?_ ?_ | refine .r9 ?_ ?_ | refine .ra ?_ ?_ | (show List.all _ _ = true; rfl) | (show (_ : Nat) = _; rfl))
  try any_goals ((intro hob; first | (simp_all; done) | (simp only [BL] at *; first | (simp_all; done) | omega)))
  all_goals (try simp only [BL] at *)
  (refine Sx.Fin.wk (by repeat' first | exact .refl _ | refine .same ?_ | refine .cons ?_) ?_; repeat' first | exact .refl _ | exact .nil | refine .cons ?_ ?_ | refine .tup ?_ | refine .agg ?_ | exact .sl | exact .own _)
theorem featR_ok (c : Cat) (n : Str) : Pure Tryz.prog 31 [.agg c.cells, sv n] (gotF (findF c.features n)) := by
  refine Pure.runk (fun _ => 0) Tryz.func31 comp31 era31 (Nat.le_of_ble_eq_true rfl) fun σ => ?_
  repeat' (first | exact .nil | refine .k0 ?_ | refine .k1 ?_ | refine .k2 ?_ | refine .k3 ?_ | refine .k4 ?_ | refine .k5 ?_ | refine .k6 ?_ | refine .k7 ?_ | refine .k8 ?_ | refine .k9 ?_ | (refine .cd ?_ ?_ <;> first | with_reducible exact tF | with_reducible exact fT | (intro hc; first | exact kf hc (by assumption) | exact kt hc (by assumption) | skip)) | refine .r1 ?_ ?_ | (refine .l1 ?_; intro b) | (refine .m1 ?_ ?_; intro b) | (refine .m2 ?_ ?_; intro hlen) | (refine .m3 ?_ ?_; intro hlen) | refine .t1 ?_ ?_ ?_ | refine .t2 ?_ ?_ ?_ | refine .t3 ?_ ?_ ?_ | refine .t4 ?_ ?_ ?_ | (refine .l2 ?_; intro b) | refine .u1 ?_ ?_ ?_ (fun b u c => ?_) | refine .u2 ?_ ?_ ?_ (fun b u c => ?_) | refine .u4 ?_ ?_ (fun b u c => ?_) | refine .u5 ?_ ?_ ?_ | refine .u3 ?_ ?_ (fun hr0 => ?_) (fun hr1 b u c => ?_) | refine .an rfl (by intro hob; first | exact findC_ok _ _ | exact findR_ok _ _) ?_ ?_ | refine .t5 ?_ ?_ ?_ | refine .t6 ?_ ?_ ?_ | refine .t7 ?_ ?_ ?_ | refine .r2 ?_ ?_ | refine .r3 ?_ ?_ | refine .r4 ?_ ?_ | refine .r5 ?_ ?_ | (refine .l3 ?_; intro b) | refine .r6 ?_ ?_ | refine .r7 ?_ ?_ | refine .r8 ?_ ?_ | refine .r9 ?_ ?_ | refine .ra ?_ ?_ | (show List.all _ _ = true; rfl) | (show (_ : Nat) = _; rfl))
  try any_goals ((intro hob; first | (simp_all; done) | (simp only [BL] at *; first | (simp_all; done) | omega)))
  all_goals (try simp only [BL] at *)
  (refine Sx.Fin.wk (by repeat' first | exact .refl _ | refine .same ?_ | refine .cons ?_) ?_; repeat' first | exact .refl _ | exact .nil | refine .cons ?_ ?_ | refine .tup ?_ | refine .agg ?_ | exact .sl | exact .own _)
theorem draftR_ok (c : Cat) (n : Str) : Pure Tryz.prog 33 [.agg c.cells, sv n] (gotF (findF c.drafts n)) := by
  refine Pure.runk (fun _ => 0) Tryz.func33 comp33 era33 (Nat.le_of_ble_eq_true rfl) fun σ => ?_
  repeat' (first | exact .nil | refine .k0 ?_ | refine .k1 ?_ | refine .k2 ?_ | refine .k3 ?_ | refine .k4 ?_ | refine .k5 ?_ | refine .k6 ?_ | refine .k7 ?_ | refine .k8 ?_ | refine .k9 ?_ | (refine .cd ?_ ?_ <;> first | with_reducible exact tF | with_reducible exact fT | (intro hc; first | exact kf hc (by assumption) | exact kt hc (by assumption) | skip)) | refine .r1 ?_ ?_ | (refine .l1 ?_; intro b) | (refine .m1 ?_ ?_; intro b) | (refine .m2 ?_ ?_; intro hlen) | (refine .m3 ?_ ?_; intro hlen) | refine .t1 ?_ ?_ ?_ | refine .t2 ?_ ?_ ?_ | refine .t3 ?_ ?_ ?_ | refine .t4 ?_ ?_ ?_ | (refine .l2 ?_; intro b) | refine .u1 ?_ ?_ ?_ (fun b u c => ?_) | refine .u2 ?_ ?_ ?_ (fun b u c => ?_) | refine .u4 ?_ ?_ (fun b u c => ?_) | refine .u5 ?_ ?_ ?_ | refine .u3 ?_ ?_ (fun hr0 => ?_) (fun hr1 b u c => ?_) | refine .an rfl (by intro hob; first | exact findC_ok _ _ | exact findR_ok _ _) ?_ ?_ | refine .t5 ?_ ?_ ?_ | refine .t6 ?_ ?_ ?_ | refine .t7 ?_ ?_ ?_ | refine .r2 ?_ ?_ | refine .r3 ?_ ?_ | refine .r4 ?_ ?_ | refine .r5 ?_ ?_ | (refine .l3 ?_; intro b) | refine .r6 ?_ ?_ | refine .r7 ?_ ?_ | refine .r8 ?_ ?_ | refine .r9 ?_ ?_ | refine .ra ?_ ?_ | (show List.all _ _ = true; rfl) | (show (_ : Nat) = _; rfl))
  try any_goals ((intro hob; first | (simp_all; done) | (simp only [BL] at *; first | (simp_all; done) | omega)))
  all_goals (try simp only [BL] at *)
  (refine Sx.Fin.wk (by repeat' first | exact .refl _ | refine .same ?_ | refine .cons ?_) ?_; repeat' first | exact .refl _ | exact .nil | refine .cons ?_ ?_ | refine .tup ?_ | refine .agg ?_ | exact .sl | exact .own _)
def findT (ts : List Tab) (n : Str) : Option Tab := ts.find? fun t => decide (t.name = n)
def gotT (o : Option Tab) : AV := .tup [.agg (o.getD zta).cells, .v (.bool o.isSome)]
theorem findT_no {ts : List Tab} {n : Str} (h : ∀ j, j < ts.length → ¬ (ts.getD j default).name = n) : findT ts n = none := by
  unfold findT
  rw [List.find?_eq_none]
  intro x hx
  obtain ⟨j, hj, rfl⟩ := List.getElem_of_mem hx
  have := h j hj
  rw [getD_eq hj] at this
  simpa using this
theorem findT_at {ts : List Tab} {n : Str} {i : Nat} (hi : i < ts.length) (h : ∀ j, j < i → ¬ (ts.getD j default).name = n) (hn : (ts.getD i default).name = n) : findT ts n = some (ts.getD i default) := by
  unfold findT
  rw [getD_eq hi] at hn ⊢
  rw [List.find?_eq_some_iff_getElem]
  refine ⟨by simpa using hn, i, hi, rfl, fun j hj => ?_⟩
  have := h j hj
  rw [getD_eq (Nat.lt_trans hj hi)] at this
  simpa using this
abbrev tabZ : List AV := [sv s0, sv s0, nilV, iv 0]
theorem tabC_ok (c : Cat) (n : Str) : Pure Tryz.prog 29 [.agg c.cells, sv n] (gotT (findT c.tables n)) := by
  refine Pure.runk (fun _ => 0) Tryz.func29 comp29 era29 (Nat.le_of_ble_eq_true rfl) fun σ => ?_
  repeat' (first | exact .nil | refine .k0 ?_ | refine .k1 ?_ | refine .k2 ?_ | refine .k3 ?_ | refine .k4 ?_ | refine .k5 ?_ | refine .k6 ?_ | refine .k7 ?_ | refine .k8 ?_ | refine .k9 ?_ | (refine .cd ?_ ?_ <;> first | with_reducible exact tF | with_reducible exact fT | (intro hc; first | exact kf hc (by assumption) | exact kt hc (by assumption) | skip)) | refine .r1 ?_ ?_ | (refine .l1 ?_; intro b) | (refine .m1 ?_ ?_; intro b) | (refine .m2 ?_ ?_; intro hlen) | (refine .m3 ?_ ?_; intro hlen) | refine .t1 ?_ ?_ ?_ | refine .t2 ?_ ?_ ?_ | refine .t3 ?_ ?_ ?_ | refine .t4 ?_ ?_ ?_ | (refine .l2 ?_; intro b) | refine .u1 ?_ ?_ ?_ (fun b u c => ?_) | refine .u2 ?_ ?_ ?_ (fun b u c => ?_) | refine .u4 ?_ ?_ (fun b u c => ?_) | refine .u5 ?_ ?_ ?_ | refine .u3 ?_ ?_ (fun hr0 => ?_) (fun hr1 b u c => ?_) | refine .an rfl (by intro hob; first | fail) ?_ ?_ | refine .t5 ?_ ?_ ?_ | refine .t6 ?_ ?_ ?_ | refine .t7 ?_ ?_ ?_ | refine .r2 ?_ ?_ | refine .r3 ?_ ?_ | refine .r4 ?_ ?_ | refine .r5 ?_ ?_ | (refine .l3 ?_; intro b) | refine .r6 ?_ ?_ | refine .r7 ?_ ?_ | refine .r8 ?_ ?_ | refine .r9 ?_ ?_ | refine .ra ?_ ?_ | (show List.all _ _ = true; rfl) | (show (_ : Nat) = _; rfl))
  try any_goals ((intro hob; first | (simp_all; done) | (simp only [BL] at *; first | (simp_all; done) | omega)))
  all_goals (try simp only [BL] at *)
  refine WK_loop (fun m rg σ' => ∃ i : Nat, i ≤ c.tables.length ∧ m = c.tables.length - i ∧ (∀ j, j < i → ¬ (c.tables.getD j default).name = n) ∧ σ' = (4, b, Blk.cells tabZ) :: σ ∧ rg = [(1, sv n), (4, .lp 4 b 0), (9, .sl false 4 (c.tables.map Tab.cells)), (10, iv c.tables.length), (11, iv i)]) c.tables.length rfl ⟨_, _, by repeat' first | exact .row | exact .refl _ | exact .nil | refine .cons ?_ ?_ | refine .tup ?_ | refine .agg ?_ | exact .sl | exact .own _ | exact .tag, by repeat' first | exact .refl _ | refine .same ?_ | refine .cons ?_, 0, Nat.zero_le _, rfl, fun j hj => absurd hj (by omega), rfl, rfl⟩ ?_
  rintro m _ _ ⟨i, hi, hn, hp, rfl, rfl⟩
  repeat' (first | exact .nil | refine .k0 ?_ | refine .k1 ?_ | refine .k2 ?_ | refine .k3 ?_ | refine .k4 ?_ | refine .k5 ?_ | refine .k6 ?_ | refine .k7 ?_ | refine .k8 ?_ | refine .k9 ?_ | (refine .cd ?_ ?_ <;> first | with_reducible exact tF | with_reducible exact fT | (intro hc; first | exact kf hc (by assumption) | exact kt hc (by assumption) | skip)) | refine .r1 ?_ ?_ | (refine .l1 ?_; intro b) | (refine .m1 ?_ ?_; intro b) | (refine .m2 ?_ ?_; intro hlen) | (refine .m3 ?_ ?_; intro hlen) | refine .t1 ?_ ?_ ?_ | refine .t2 ?_ ?_ ?_ | refine .t3 ?_ ?_ ?_ | refine .t4 ?_ ?_ ?_ | (refine .l2 ?_; intro b) | refine .u1 ?_ ?_ ?_ (fun b u c => ?_) | refine .u2 ?_ ?_ ?_ (fun b u c => ?_) | refine .u4 ?_ ?_ (fun b u c => ?_) | refine .u5 ?_ ?_ ?_ | refine .u3 ?_ ?_ (fun hr0 => ?_) (fun hr1 b u c => ?_) | refine .an rfl (by intro hob; first | fail) ?_ ?_ | refine .t5 ?_ ?_ ?_ | refine .t6 ?_ ?_ ?_ | refine .t7 ?_ ?_ ?_ | refine .r2 ?_ ?_ | refine .r3 ?_ ?_ | refine .r4 ?_ ?_ | refine .r5 ?_ ?_ | (refine .l3 ?_; intro b) | refine .r6 ?_ ?_ | refine .r7 ?_ ?_ | refine .r8 ?_ ?_ | refine .r9 ?_ ?_ | refine .ra ?_ ?_ | (show List.all _ _ = true; rfl) | (show (_ : Nat) = _; rfl))
  try any_goals ((intro hob; first | (simp_all; done) | (simp only [BL] at *; first | (simp_all; done) | omega)))
  all_goals (try simp only [BL] at *)
  · rw [findT_at (by omega) hp hc]
    (refine Sx.Fin.wk (by repeat' first | exact .refl _ | refine .same ?_ | refine .cons ?_) ?_; repeat' first | exact .refl _ | exact .nil | refine .cons ?_ ?_ | refine .tup ?_ | refine .agg ?_ | exact .sl | exact .own _)
  · refine ⟨c.tables.length - (i + 1), by omega, _, _, by repeat' first | exact .row | exact .refl _ | exact .nil | refine .cons ?_ ?_ | refine .tup ?_ | refine .agg ?_ | exact .sl | exact .own _ | exact .tag, by repeat' first | exact .refl _ | refine .same ?_ | refine .cons ?_, i + 1, by omega, rfl, cons_lt hp hc, rfl, by rw [up1 (n := c.tables.length) (by omega) (by assumption)]⟩
  · rw [findT_no (fun j hj => hp j (by omega))]
    (refine Sx.Fin.wk (by repeat' first | exact .refl _ | refine .same ?_ | refine .cons ?_) ?_; repeat' first | exact .refl _ | exact .nil | refine .cons ?_ ?_ | refine .tup ?_ | refine .agg ?_ | exact .sl | exact .own _)
theorem tabR_ok (c : Cat) (n : Str) : Pure Tryz.prog 30 [.agg c.cells, sv n] (gotT (findT c.tables n)) := by
  refine Pure.runk (fun _ => 0) Tryz.func30 comp30 era30 (Nat.le_of_ble_eq_true rfl) fun σ => ?_
  repeat' (first | exact .nil | refine .k0 ?_ | refine .k1 ?_ | refine .k2 ?_ | refine .k3 ?_ | refine .k4 ?_ | refine .k5 ?_ | refine .k6 ?_ | refine .k7 ?_ | refine .k8 ?_ | refine .k9 ?_ | (refine .cd ?_ ?_ <;> first | with_reducible exact tF | with_reducible exact fT | (intro hc; first | exact kf hc (by assumption) | exact kt hc (by assumption) | skip)) | refine .r1 ?_ ?_ | (refine .l1 ?_; intro b) | (refine .m1 ?_ ?_; intro b) | (refine .m2 ?_ ?_; intro hlen) | (refine .m3 ?_ ?_; intro hlen) | refine .t1 ?_ ?_ ?_ | refine .t2 ?_ ?_ ?_ | refine .t3 ?_ ?_ ?_ | refine .t4 ?_ ?_ ?_ | (refine .l2 ?_; intro b) | refine .u1 ?_ ?_ ?_ (fun b u c => ?_) | refine .u2 ?_ ?_ ?_ (fun b u c => ?_) | refine .u4 ?_ ?_ (fun b u c => ?_) | refine .u5 ?_ ?_ ?_ | refine .u3 ?_ ?_ (fun hr0 => ?_) (fun hr1 b u c => ?_) | refine .an rfl (by intro hob; first | fail) ?_ ?_ | refine .t5 ?_ ?_ ?_ | refine .t6 ?_ ?_ ?_ | refine .t7 ?_ ?_ ?_ | refine .r2 ?_ ?_ | refine .r3 ?_ ?_ | refine .r4 ?_ ?_ | refine .r5 ?_ ?_ | (refine .l3 ?_; intro b) | refine .r6 ?_ ?_ | refine .r7 ?_ ?_ | refine .r8 ?_ ?_ | refine .r9 ?_ ?_ | refine .ra ?_ ?_ | (show List.all _ _ = true; rfl) | (show (_ : Nat) = _; rfl))
  try any_goals ((intro hob; first | (simp_all; done) | (simp only [BL] at *; first | (simp_all; done) | omega)))
  all_goals (try simp only [BL] at *)
  rename_i b2
  refine WK_loop (fun m rg σ' => ∃ i : Nat, i ≤ c.tables.length ∧ m = c.tables.length - i ∧ (∀ j, j < i → ¬ (c.tables.getD j default).name = n) ∧ σ' = (4, b, Blk.cells tabZ) :: (2, b2, Blk.cells c.cells) :: σ ∧ rg = [(1, sv n), (2, .lp 2 b2 0), (4, .lp 4 b 0), (6, iv i)]) c.tables.length rfl ⟨_, _, by repeat' first | exact .row | exact .refl _ | exact .nil | refine .cons ?_ ?_ | refine .tup ?_ | refine .agg ?_ | exact .sl | exact .own _ | exact .tag, by repeat' first | exact .refl _ | refine .same ?_ | refine .cons ?_, 0, Nat.zero_le _, rfl, fun j hj => absurd hj (by omega), rfl, rfl⟩ ?_
  rintro m _ _ ⟨i, hi, hn, hp, rfl, rfl⟩
  repeat' (first | exact .nil | refine .k0 ?_ | refine .k1 ?_ | refine .k2 ?_ | refine .k3 ?_ | refine .k4 ?_ | refine .k5 ?_ | refine .k6 ?_ | refine .k7 ?_ | refine .k8 ?_ | refine .k9 ?_ | (refine .cd ?_ ?_ <;> first | with_reducible exact tF | with_reducible exact fT | (intro hc; first | exact kf hc (by assumption) | exact kt hc (by assumption) | skip)) | refine .r1 ?_ ?_ | (refine .l1 ?_; intro b) | (refine .m1 ?_ ?_; intro b) | (refine .m2 ?_ ?_; intro hlen) | (refine .m3 ?_ ?_; intro hlen) | refine .t1 ?_ ?_ ?_ | refine .t2 ?_ ?_ ?_ | refine .t3 ?_ ?_ ?_ | refine .t4 ?_ ?_ ?_ | (refine .l2 ?_; intro b) | refine .u1 ?_ ?_ ?_ (fun b u c => ?_) | refine .u2 ?_ ?_ ?_ (fun b u c => ?_) | refine .u4 ?_ ?_ (fun b u c => ?_) | refine .u5 ?_ ?_ ?_ | refine .u3 ?_ ?_ (fun hr0 => ?_) (fun hr1 b u c => ?_) | refine .an rfl (by intro hob; first | fail) ?_ ?_ | refine .t5 ?_ ?_ ?_ | refine .t6 ?_ ?_ ?_ | refine .t7 ?_ ?_ ?_ | refine .r2 ?_ ?_ | refine .r3 ?_ ?_ | refine .r4 ?_ ?_ | refine .r5 ?_ ?_ | (refine .l3 ?_; intro b) | refine .r6 ?_ ?_ | refine .r7 ?_ ?_ | refine .r8 ?_ ?_ | refine .r9 ?_ ?_ | refine .ra ?_ ?_ | (show List.all _ _ = true; rfl) | (show (_ : Nat) = _; rfl))
  try any_goals ((intro hob; first | (simp_all; done) | (simp only [BL] at *; first | (simp_all; done) | omega)))
  all_goals (try simp only [BL] at *)
  · rw [findT_at (by omega) hp hc]
    (refine Sx.Fin.wk (by repeat' first | exact .refl _ | refine .same ?_ | refine .cons ?_) ?_; repeat' first | exact .refl _ | exact .nil | refine .cons ?_ ?_ | refine .tup ?_ | refine .agg ?_ | exact .sl | exact .own _)
  · refine ⟨c.tables.length - (i + 1), by omega, _, _, by repeat' first | exact .row | exact .refl _ | exact .nil | refine .cons ?_ ?_ | refine .tup ?_ | refine .agg ?_ | exact .sl | exact .own _ | exact .tag, by repeat' first | exact .refl _ | refine .same ?_ | refine .cons ?_, i + 1, by omega, rfl, cons_lt hp hc, rfl, by rw [up1 (n := c.tables.length) (by omega) (by assumption)]⟩
  · rw [findT_no (fun j hj => hp j (by omega))]
    (refine Sx.Fin.wk (by repeat' first | exact .refl _ | refine .same ?_ | refine .cons ?_) ?_; repeat' first | exact .refl _ | exact .nil | refine .cons ?_ ?_ | refine .tup ?_ | refine .agg ?_ | exact .sl | exact .own _)
theorem catalogFinds_ok (c : Cat) (n : Str) : Pure Tryz.prog 9 [.agg c.cells, sv n] (.v (.bool true)) := by
  by_cases hs : Small c
  · have hS := small_t hs
    refine Pure.runk (fun _ => 0) Tryz.func9 comp9 era9 (Nat.le_of_ble_eq_true rfl) fun σ => ?_
    repeat' (first | exact .nil | refine .k0 ?_ | refine .k1 ?_ | refine .k2 ?_ | refine .k3 ?_ | refine .k4 ?_ | refine .k5 ?_ | refine .k6 ?_ | refine .k7 ?_ | refine .k8 ?_ | refine .k9 ?_ | (refine .cd ?_ ?_ <;> first | with_reducible exact tF | with_reducible exact fT | (intro hc; first | exact kf hc (by assumption) | exact kt hc (by assumption) | skip)) | refine .r1 ?_ ?_ | (refine .l1 ?_; intro b) | (refine .m1 ?_ ?_; intro b) | (refine .m2 ?_ ?_; intro hlen) | (refine .m3 ?_ ?_; intro hlen) | refine .t1 ?_ ?_ ?_ | refine .t2 ?_ ?_ ?_ | refine .t3 ?_ ?_ ?_ | refine .t4 ?_ ?_ ?_ | (refine .l2 ?_; intro b) | refine .u1 ?_ ?_ ?_ (fun b u c => ?_) | refine .u2 ?_ ?_ ?_ (fun b u c => ?_) | refine .u4 ?_ ?_ (fun b u c => ?_) | refine .u5 ?_ ?_ ?_ | refine .u3 ?_ ?_ (fun hr0 => ?_) (fun hr1 b u c => ?_) | refine .an rfl (by intro hob; first | exact hS | exact tabC_ok _ _ | exact tabR_ok _ _ | exact featC_ok _ _ | exact featR_ok _ _ | exact draftC_ok _ _ | exact draftR_ok _ _ | exact sameTab_t _ | exact sameFea_t _ | exact example_ok) ?_ ?_ | refine .t5 ?_ ?_ ?_ | refine .t6 ?_ ?_ ?_ | refine .t7 ?_ ?_ ?_ | refine .r2 ?_ ?_ | refine .r3 ?_ ?_ | refine .r4 ?_ ?_ | refine .r5 ?_ ?_ | (refine .l3 ?_; intro b) | refine .r6 ?_ ?_ | refine .r7 ?_ ?_ | refine .r8 ?_ ?_ | refine .r9 ?_ ?_ | refine .ra ?_ ?_ | (show List.all _ _ = true; rfl) | (show (_ : Nat) = _; rfl))
    try any_goals ((intro hob; first | (simp_all; done) | (simp only [BL] at *; first | (simp_all; done) | omega)))
    all_goals (try simp only [BL] at *)
    all_goals first | (exfalso; exact absurd hc (by decide)) | (show Sx.Fin _ _ _ _; (try simp only [beq_self_eq_true, Bool.and_self]); (refine Sx.Fin.wk (by repeat' first | exact .refl _ | refine .same ?_ | refine .cons ?_) ?_; repeat' first | exact .refl _ | exact .nil | refine .cons ?_ ?_ | refine .tup ?_ | refine .agg ?_ | exact .sl | exact .own _); done)
  · have hS := small_f hs
    refine Pure.runk (fun _ => 0) Tryz.func9 comp9 era9 (Nat.le_of_ble_eq_true rfl) fun σ => ?_
    repeat' (first | exact .nil | refine .k0 ?_ | refine .k1 ?_ | refine .k2 ?_ | refine .k3 ?_ | refine .k4 ?_ | refine .k5 ?_ | refine .k6 ?_ | refine .k7 ?_ | refine .k8 ?_ | refine .k9 ?_ | (refine .cd ?_ ?_ <;> first | with_reducible exact tF | with_reducible exact fT | (intro hc; first | exact kf hc (by assumption) | exact kt hc (by assumption) | skip)) | refine .r1 ?_ ?_ | (refine .l1 ?_; intro b) | (refine .m1 ?_ ?_; intro b) | (refine .m2 ?_ ?_; intro hlen) | (refine .m3 ?_ ?_; intro hlen) | refine .t1 ?_ ?_ ?_ | refine .t2 ?_ ?_ ?_ | refine .t3 ?_ ?_ ?_ | refine .t4 ?_ ?_ ?_ | (refine .l2 ?_; intro b) | refine .u1 ?_ ?_ ?_ (fun b u c => ?_) | refine .u2 ?_ ?_ ?_ (fun b u c => ?_) | refine .u4 ?_ ?_ (fun b u c => ?_) | refine .u5 ?_ ?_ ?_ | refine .u3 ?_ ?_ (fun hr0 => ?_) (fun hr1 b u c => ?_) | refine .an rfl (by intro hob; first | exact hS | exact tabC_ok _ _ | exact tabR_ok _ _ | exact featC_ok _ _ | exact featR_ok _ _ | exact draftC_ok _ _ | exact draftR_ok _ _ | exact sameTab_t _ | exact sameFea_t _ | exact example_ok) ?_ ?_ | refine .t5 ?_ ?_ ?_ | refine .t6 ?_ ?_ ?_ | refine .t7 ?_ ?_ ?_ | refine .r2 ?_ ?_ | refine .r3 ?_ ?_ | refine .r4 ?_ ?_ | refine .r5 ?_ ?_ | (refine .l3 ?_; intro b) | refine .r6 ?_ ?_ | refine .r7 ?_ ?_ | refine .r8 ?_ ?_ | refine .r9 ?_ ?_ | refine .ra ?_ ?_ | (show List.all _ _ = true; rfl) | (show (_ : Nat) = _; rfl))
    try any_goals ((intro hob; first | (simp_all; done) | (simp only [BL] at *; first | (simp_all; done) | omega)))
    all_goals (try simp only [BL] at *)
    all_goals first | (exfalso; exact absurd hc (by decide)) | (show Sx.Fin _ _ _ _; (try simp only [beq_self_eq_true, Bool.and_self]); (refine Sx.Fin.wk (by repeat' first | exact .refl _ | refine .same ?_ | refine .cons ?_) ?_; repeat' first | exact .refl _ | exact .nil | refine .cons ?_ ?_ | refine .tup ?_ | refine .agg ?_ | exact .sl | exact .own _); done)
end Go.Proofs.YtekngilbecjkhaaGreatDoor
