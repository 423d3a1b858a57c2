
/- CatalogUses. -/
import Derived.Test.YtekngilbecjkhaaGreatDoorEh
set_option linter.unusedSimpArgs false
set_option linter.unusedVariables false
set_option maxRecDepth 100000
set_option maxHeartbeats 4000000
namespace Go.Proofs.YtekngilbecjkhaaGreatDoor
open Go.Sx Go.Proofs Go.Tb
theorem catalogUses_ok (c : Cat) (x : Ex) (hc : c.Fits) (hx : x.wt ≤ 2 ^ 60) : Pure Tryz.prog 4 [.agg c.cells, .agg x.row] (.v (.bool true)) := by
  have hZ := sizeX_ok x 500 (by omega) (by omega)
  have hF := same_t (usesF c.features x)
  have hT := same_t (usesT c.features x)
  by_cases hs : Small c
  rotate_left
  · have hS := small_f hs
    refine Pure.runk (fun _ => 0) Tryz.func4 comp4 era4 (Nat.le_of_ble_eq_true rfl) fun σ => ?_
    repeat' (first | exact .nil | refine .k0 ?_ | refine .k1 ?_ | refine .k2 ?_ | refine .k3 ?_ | refine .k4 ?_ | refine .k5 ?_ | refine .k6 ?_ | refine .k7 ?_ | refine .k8 ?_ | refine .k9 ?_ | (refine .cd ?_ ?_ <;> first | with_reducible exact tF | with_reducible exact fT | (intro hc; first | exact kf hc (by assumption) | exact kt hc (by assumption) | skip)) | refine .r1 ?_ ?_ | (refine .l1 ?_; intro b) | (refine .m1 ?_ ?_; intro b) | (refine .m2 ?_ ?_; intro hlen) | (refine .m3 ?_ ?_; intro hlen) | refine .t1 ?_ ?_ ?_ | refine .t2 ?_ ?_ ?_ | refine .t3 ?_ ?_ ?_ | refine .t4 ?_ ?_ ?_ | (refine .l2 ?_; intro b) | refine .u1 ?_ ?_ ?_ (fun b u c => ?_) | refine .u2 ?_ ?_ ?_ (fun b u c => ?_) | refine .u4 ?_ ?_ (fun b u c => ?_) | refine .u5 ?_ ?_ ?_ | refine .u3 ?_ ?_ (fun hr0 => ?_) (fun hr1 b u c => ?_) | refine .an rfl (by intro hob; first | exact hS | exact hZ | exact hU | exact hR | exact hF | exact hT | exact example_ok) ?_ ?_ | refine .t5 ?_ ?_ ?_ | refine .t6 ?_ ?_ ?_ | refine .t7 ?_ ?_ ?_ | refine .r2 ?_ ?_ | refine .r3 ?_ ?_ | refine .r4 ?_ ?_ | refine .r5 ?_ ?_ | (refine .l3 ?_; intro b) | refine .r6 ?_ ?_ | refine .r7 ?_ ?_ | refine .r8 ?_ ?_ | refine .r9 ?_ ?_ | refine .ra ?_ ?_ | (show List.all _ _ = true; rfl) | (show (_ : Nat) = _; rfl))
    try any_goals ((intro hob; first | (simp_all; done) | (simp only [BL] at *; first | (simp_all; done) | omega)))
    all_goals (try simp only [BL] at *)
    all_goals first | (show Sx.Fin _ _ _ _; (refine Sx.Fin.wk (by repeat' first | exact .refl _ | refine .same ?_ | refine .cons ?_) ?_; repeat' first | exact .refl _ | exact .nil | refine .cons ?_ ?_ | refine .tup ?_ | refine .agg ?_ | exact .sl | exact .own _); done) | (exfalso; first | exact absurd hc.1 (by decide) | omega | (simp at hc; omega) | (simp at hc; done))
  have hS := small_t hs
  by_cases hz : szE x 500 ≤ 500
  · have hU := uses_ok c x (usmall hs hc (by have := szE_small hz; omega) hx)
    rw [Ex.cells_row] at hU
    have hR := uses12_ok c x (ufit hs (by have := szE_small hz; omega))
    refine Pure.runk (fun _ => 0) Tryz.func4 comp4 era4 (Nat.le_of_ble_eq_true rfl) fun σ => ?_
    repeat' (first | exact .nil | refine .k0 ?_ | refine .k1 ?_ | refine .k2 ?_ | refine .k3 ?_ | refine .k4 ?_ | refine .k5 ?_ | refine .k6 ?_ | refine .k7 ?_ | refine .k8 ?_ | refine .k9 ?_ | (refine .cd ?_ ?_ <;> first | with_reducible exact tF | with_reducible exact fT | (intro hc; first | exact kf hc (by assumption) | exact kt hc (by assumption) | skip)) | refine .r1 ?_ ?_ | (refine .l1 ?_; intro b) | (refine .m1 ?_ ?_; intro b) | (refine .m2 ?_ ?_; intro hlen) | (refine .m3 ?_ ?_; intro hlen) | refine .t1 ?_ ?_ ?_ | refine .t2 ?_ ?_ ?_ | refine .t3 ?_ ?_ ?_ | refine .t4 ?_ ?_ ?_ | (refine .l2 ?_; intro b) | refine .u1 ?_ ?_ ?_ (fun b u c => ?_) | refine .u2 ?_ ?_ ?_ (fun b u c => ?_) | refine .u4 ?_ ?_ (fun b u c => ?_) | refine .u5 ?_ ?_ ?_ | refine .u3 ?_ ?_ (fun hr0 => ?_) (fun hr1 b u c => ?_) | refine .an rfl (by intro hob; first | exact hS | exact hZ | exact hU | exact hR | exact hF | exact hT | exact example_ok) ?_ ?_ | refine .t5 ?_ ?_ ?_ | refine .t6 ?_ ?_ ?_ | refine .t7 ?_ ?_ ?_ | refine .r2 ?_ ?_ | refine .r3 ?_ ?_ | refine .r4 ?_ ?_ | refine .r5 ?_ ?_ | (refine .l3 ?_; intro b) | refine .r6 ?_ ?_ | refine .r7 ?_ ?_ | refine .r8 ?_ ?_ | refine .r9 ?_ ?_ | refine .ra ?_ ?_ | (show List.all _ _ = true; rfl) | (show (_ : Nat) = _; rfl))
    try any_goals ((intro hob; first | (simp_all; done) | (simp only [BL] at *; first | (simp_all; done) | omega)))
    all_goals (try simp only [BL] at *)
    all_goals first | (show Sx.Fin _ _ _ _; (refine Sx.Fin.wk (by repeat' first | exact .refl _ | refine .same ?_ | refine .cons ?_) ?_; repeat' first | exact .refl _ | exact .nil | refine .cons ?_ ?_ | refine .tup ?_ | refine .agg ?_ | exact .sl | exact .own _); done) | (exfalso; first | exact absurd hc.1 (by decide) | omega | (simp at hc; omega) | (simp at hc; done))
  · refine Pure.runk (fun _ => 0) Tryz.func4 comp4 era4 (Nat.le_of_ble_eq_true rfl) fun σ => ?_
    repeat' (first | exact .nil | refine .k0 ?_ | refine .k1 ?_ | refine .k2 ?_ | refine .k3 ?_ | refine .k4 ?_ | refine .k5 ?_ | refine .k6 ?_ | refine .k7 ?_ | refine .k8 ?_ | refine .k9 ?_ | (refine .cd ?_ ?_ <;> first | with_reducible exact tF | with_reducible exact fT | (intro hc; first | exact kf hc (by assumption) | exact kt hc (by assumption) | skip)) | refine .r1 ?_ ?_ | (refine .l1 ?_; intro b) | (refine .m1 ?_ ?_; intro b) | (refine .m2 ?_ ?_; intro hlen) | (refine .m3 ?_ ?_; intro hlen) | refine .t1 ?_ ?_ ?_ | refine .t2 ?_ ?_ ?_ | refine .t3 ?_ ?_ ?_ | refine .t4 ?_ ?_ ?_ | (refine .l2 ?_; intro b) | refine .u1 ?_ ?_ ?_ (fun b u c => ?_) | refine .u2 ?_ ?_ ?_ (fun b u c => ?_) | refine .u4 ?_ ?_ (fun b u c => ?_) | refine .u5 ?_ ?_ ?_ | refine .u3 ?_ ?_ (fun hr0 => ?_) (fun hr1 b u c => ?_) | refine .an rfl (by intro hob; first | exact hS | exact hZ | exact hU | exact hR | exact hF | exact hT | exact example_ok) ?_ ?_ | refine .t5 ?_ ?_ ?_ | refine .t6 ?_ ?_ ?_ | refine .t7 ?_ ?_ ?_ | refine .r2 ?_ ?_ | refine .r3 ?_ ?_ | refine .r4 ?_ ?_ | refine .r5 ?_ ?_ | (refine .l3 ?_; intro b) | refine .r6 ?_ ?_ | refine .r7 ?_ ?_ | refine .r8 ?_ ?_ | refine .r9 ?_ ?_ | refine .ra ?_ ?_ | (show List.all _ _ = true; rfl) | (show (_ : Nat) = _; rfl))
    try any_goals ((intro hob; first | (simp_all; done) | (simp only [BL] at *; first | (simp_all; done) | omega)))
    all_goals (try simp only [BL] at *)
    all_goals first | (show Sx.Fin _ _ _ _; (refine Sx.Fin.wk (by repeat' first | exact .refl _ | refine .same ?_ | refine .cons ?_) ?_; repeat' first | exact .refl _ | exact .nil | refine .cons ?_ ?_ | refine .tup ?_ | refine .agg ?_ | exact .sl | exact .own _); done) | (exfalso; first | exact absurd hc.1 (by decide) | omega | (simp at hc; omega) | (simp at hc; done))
end Go.Proofs.YtekngilbecjkhaaGreatDoor
