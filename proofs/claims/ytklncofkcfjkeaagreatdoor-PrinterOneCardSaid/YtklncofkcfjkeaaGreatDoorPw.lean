
/- The law PrinterOne. -/
import Derived.Test.YtklncofkcfjkeaaGreatDoorPs
import Derived.Test.YtklncofkcfjkeaaGreatDoorPz
set_option linter.unusedSimpArgs false
set_option linter.unusedVariables false
set_option maxRecDepth 100000
set_option maxHeartbeats 4000000
namespace Go.Proofs.YtklncofkcfjkeaaGreatDoor
open Go.Sx Go.Proofs
theorem shapeR_lay (x : Ex) (hs : x.size ≤ 100) : Pure Tryz.prog 8 [.agg x.lay] (iv (shape x)) := by have := shapeR_ok x (by omega); rwa [Ex.row_eq x] at this
theorem same_lay (x y : Ex) : Pure Tryz.prog 10 [.agg x.lay, .agg y.lay] (.v (.bool (decide (x = y)))) := by have := sameExpr_ok x y; rwa [Ex.row_eq x, Ex.row_eq y] at this
theorem one_same {x y : Ex} (hx : shape x = 0) (hy : shape y = 0) : exprS x = exprS y ↔ x = y := by
  unfold exprS
  rw [if_pos hx, if_pos hy]
  exact ⟨fun h => text_inj (shape_form hx) (shape_form hy) h, fun h => by rw [h]⟩
theorem printerOne_ok (x y : Ex) (hx : x.wt ≤ 2 ^ 60) (hy : y.wt ≤ 2 ^ 60) : Pure Tryz.prog 3 [.agg x.row, .agg y.row] (.v (.bool true)) := by
  have h1 := @one_same x y
  rw [Ex.row_eq x, Ex.row_eq y]
  refine Pure.runk (fun _ => 0) Tryz.func3 comp3 era3 (Nat.le_of_ble_eq_true rfl) fun σ => ?_
  repeat' (first | exact .nil | refine .k0 ?_ | refine .k1 ?_ | refine .k2 ?_ | refine .k3 ?_ | refine .k4 ?_ | refine .k5 ?_ | refine .k6 ?_ | refine .k7 ?_ | refine .k8 ?_ | refine .k9 ?_ | (refine .cd ?_ ?_ <;> first | with_reducible exact tF | with_reducible exact fT | (intro hc; first | exact kf hc (by assumption) | exact kt hc (by assumption) | skip)) | refine .r1 ?_ ?_ | (refine .l1 ?_; intro b) | (refine .m1 ?_ ?_; intro b) | (refine .m2 ?_ ?_; intro hlen) | (refine .m3 ?_ ?_; intro hlen) | refine .t1 ?_ ?_ ?_ | refine .t2 ?_ ?_ ?_ | refine .t3 ?_ ?_ ?_ | refine .t4 ?_ ?_ ?_ | (refine .l2 ?_; intro b) | refine .u1 ?_ ?_ ?_ (fun b u c => ?_) | refine .u2 ?_ ?_ ?_ (fun b u c => ?_) | refine .an rfl (by intro hob; first | exact example_ok | exact few_lay x hx 100 (by decide) | exact few_lay y hy 100 (by decide) | exact shapeR_lay x (few_100 (by grind)) | exact shapeR_lay y (few_100 (by grind)) | exact expr_lay x (few_100 (by grind)) | exact expr_lay y (few_100 (by grind)) | exact same_lay x y) ?_ ?_ | refine .t5 ?_ ?_ ?_ | refine .t6 ?_ ?_ ?_ | refine .t7 ?_ ?_ ?_ | refine .r2 ?_ ?_ | refine .r3 ?_ ?_ | refine .r4 ?_ ?_ | refine .r5 ?_ ?_ | (refine .l3 ?_; intro b) | refine .r6 ?_ ?_ | refine .r7 ?_ ?_ | refine .r8 ?_ ?_ | refine .r9 ?_ ?_ | refine .ra ?_ ?_ | (show List.all _ _ = true; rfl) | (show (_ : Nat) = _; rfl))
  try any_goals ((intro hob; first | (simp_all; done) | (simp only [BL] at *; first | (simp_all; done) | omega)))
  all_goals (try simp only [BL] at *)
  · exact absurd hc (by decide)
  · exact Sx.Fin.intro (by repeat' first | exact .refl _ | refine .same ?_ | refine .cons ?_) rfl
  · obtain ⟨⟨_, a⟩, b⟩ := hc
    refine Sx.Fin.intro (by repeat' first | exact .refl _ | refine .same ?_ | refine .cons ?_) (congrArg (fun b => AV.v (.bool b)) ?_)
    have e : decide (exprS x = exprS y) = decide (x = y) := decide_eq_decide.2 (h1 a b)
    rw [decide_eq_true a, decide_eq_true b, e]
    simp
end Go.Proofs.YtklncofkcfjkeaaGreatDoor
