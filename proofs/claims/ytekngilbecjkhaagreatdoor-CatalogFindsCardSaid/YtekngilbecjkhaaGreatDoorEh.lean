
/- The example of the statements, walked. -/
import Derived.Test.YtekngilbecjkhaaGreatDoorEe
import Derived.Test.YtekngilbecjkhaaGreatDoorEg0
set_option linter.unusedSimpArgs false
set_option linter.unusedVariables false
set_option maxRecDepth 100000
set_option maxHeartbeats 4000000
namespace Go.Proofs.YtekngilbecjkhaaGreatDoor
open Go.Sx Go.Proofs Go.Tb
theorem wt_lit : cat1.Fits ∧ cat2.Fits ∧ Small cat1 ∧ Small cat2 := by
  refine ⟨⟨?_, ?_⟩, ⟨?_, ?_⟩, ?_, ?_⟩
  all_goals decide +kernel
theorem ex_uses1 : Pure Tryz.prog 15 [.agg cat1.cells, .agg bX.cells] (.tup [strsV [sA, sC], strsV [sT]]) := by
  have h := uses_ok cat1 bX (usmall wt_lit.2.2.1 wt_lit.1 (by decide +kernel) (by decide +kernel))
  rwa [show usesF cat1.features bX = [sA, sC] from uses_1.1, show usesT cat1.features bX = [sT] from uses_1.2] at h
theorem ex_uses2 : Pure Tryz.prog 15 [.agg cat1.cells, .agg dX.cells] (.tup [strsV [sE, sK], strsV []]) := by
  have h := uses_ok cat1 dX (usmall wt_lit.2.2.1 wt_lit.1 (by decide +kernel) (by decide +kernel))
  rwa [show usesF cat1.features dX = [sE, sK] from uses_2.1, show usesT cat1.features dX = [] from uses_2.2] at h
theorem ex_order1 : Pure Tryz.prog 20 [.agg cat1.cells] (strsV [sA, sC, sB, sD]) := by
  have h := order_ok cat1 (cfit wt_lit.2.2.1 wt_lit.1)
  rwa [show orderL (deps cat1.features) (namesF cat1.features) = _ from order_1] at h
theorem ex_order2 : Pure Tryz.prog 20 [.agg cat2.cells] (strsV [sD]) := by
  have h := order_ok cat2 (cfit wt_lit.2.2.2 wt_lit.2.1)
  rwa [show orderL (deps cat2.features) (namesF cat2.features) = _ from order_2] at h
theorem ex_cycle1 : Pure Tryz.prog 18 [.agg cat1.cells] (strsV []) := by
  have h := cycle_ok cat1 (cfit wt_lit.2.2.1 wt_lit.1)
  rwa [show cycL (deps cat1.features) (namesF cat1.features) = _ from cyc_1] at h
theorem ex_cycle2 : Pure Tryz.prog 18 [.agg cat2.cells] (strsV [sA, sC]) := by
  have h := cycle_ok cat2 (cfit wt_lit.2.2.2 wt_lit.2.1)
  rwa [show cycL (deps cat2.features) (namesF cat2.features) = _ from cyc_2] at h
theorem example_ok : Pure Tryz.prog 13 [] (.v (.bool true)) := by
  refine Pure.runk (fun d => bif ([33, 106] : List Nat).elem d then 3 else 0) Tryz.func13 comp13 era13 (Nat.le_of_ble_eq_true rfl) fun σ => ?_
  repeat' (first | exact .nil | refine .k0 ?_ | refine .k1 ?_ | refine .k2 ?_ | refine .k3 ?_ | refine .k5 ?_ | refine .k7 ?_ | refine .k9 ?_ | (refine .cd ?_ ?_ <;> (intro hc; first | exact kt hc (by assumption) | skip)) | refine .r1 ?_ ?_ | (refine .l1 ?_; intro b) | (refine .m2 ?_ ?_; intro hlen) | refine .u4 ?_ ?_ (fun b u c => ?_) | refine .u5 ?_ ?_ ?_ | refine .an rfl (by intro hob; first | exact use_ok _ | (refine (feature_ok sA cntX).wk ?_; (repeat' first | exact .refl _ | exact .nil | refine .agg ?_ | refine .cons ?_ ?_ | refine .rows ?_); done) | (refine (feature_ok sB bX).wk ?_; (repeat' first | exact .refl _ | exact .nil | refine .agg ?_ | refine .cons ?_ ?_ | refine .rows ?_); done) | (refine (feature_ok sC cX).wk ?_; (repeat' first | exact .refl _ | exact .nil | refine .agg ?_ | refine .cons ?_ ?_ | refine .rows ?_); done) | (refine (feature_ok sD dX).wk ?_; (repeat' first | exact .refl _ | exact .nil | refine .agg ?_ | refine .cons ?_ ?_ | refine .rows ?_); done) | (refine (feature_ok sA aX).wk ?_; (repeat' first | exact .refl _ | exact .nil | refine .agg ?_ | refine .cons ?_ ?_ | refine .rows ?_); done) | (refine ex_uses1.wk ?_; (repeat' first | exact .refl _ | exact .nil | exact .own _ | refine .agg ?_ | refine .cons ?_ ?_ | refine .rows ?_); done) | (refine ex_uses2.wk ?_; (repeat' first | exact .refl _ | exact .nil | exact .own _ | refine .agg ?_ | refine .cons ?_ ?_ | refine .rows ?_); done) | (refine ex_order1.wk ?_; (repeat' first | exact .refl _ | exact .nil | exact .own _ | refine .agg ?_ | refine .cons ?_ ?_ | refine .rows ?_); done) | (refine ex_order2.wk ?_; (repeat' first | exact .refl _ | exact .nil | exact .own _ | refine .agg ?_ | refine .cons ?_ ?_ | refine .rows ?_); done) | (refine ex_cycle1.wk ?_; (repeat' first | exact .refl _ | exact .nil | exact .own _ | refine .agg ?_ | refine .cons ?_ ?_ | refine .rows ?_); done) | (refine ex_cycle2.wk ?_; (repeat' first | exact .refl _ | exact .nil | exact .own _ | refine .agg ?_ | refine .cons ?_ ?_ | refine .rows ?_); done) | exact check0_ok | (refine (same_t [sA, sC]).wk ?_; (repeat' first | exact .refl _ | exact .nil | refine .cons ?_ ?_ | refine .rows ?_); done) | (refine (same_t [sT]).wk ?_; (repeat' first | exact .refl _ | exact .nil | refine .cons ?_ ?_ | refine .rows ?_); done) | (refine (same_t [sE, sK]).wk ?_; (repeat' first | exact .refl _ | exact .nil | refine .cons ?_ ?_ | refine .rows ?_); done) | (refine (same_t [sA, sC, sB, sD]).wk ?_; (repeat' first | exact .refl _ | exact .nil | refine .cons ?_ ?_ | refine .rows ?_); done) | (refine (same_t [sD]).wk ?_; (repeat' first | exact .refl _ | exact .nil | refine .cons ?_ ?_ | refine .rows ?_); done)) ?_ ?_ | refine .r8 ?_ ?_ | fail)
  try any_goals ((intro hob; first | (simp_all; done) | fail))
  all_goals (try simp only [BL] at *)
  any_goals (show List.length _ ≤ 1000000; exact Nat.le_of_ble_eq_true rfl)
  any_goals (show (List.length _ + List.length _) * 248 ≤ 35184372088832; exact Nat.le_of_ble_eq_true rfl)
  any_goals (show True ∧ (0 : Int) ≤ _ ∧ _; exact ⟨trivial, by decide, by show (_ : Int) < ((4 : Nat) : Int); decide⟩)
  any_goals exact absurd rfl hc
  any_goals (show (0 : Int) ≤ 1 ∧ (1 : Int) ≤ _; exact ⟨by decide, by show (1 : Int) ≤ ((4 : Nat) : Int); decide⟩)
  all_goals (show Sx.Fin _ _ _ _; (refine Sx.Fin.wk (by repeat' first | exact .refl _ | refine .cons ?_) ?_; repeat' first | exact .refl _ | fail))
end Go.Proofs.YtekngilbecjkhaaGreatDoor
