
/- The reference: lists of names. -/
import Derived.Test.YtekngilbecjkhaaGreatDoorCe
import Derived.Test.YtekngilbecjkhaaGreatDoorDa
set_option linter.unusedSimpArgs false
set_option linter.unusedVariables false
set_option maxRecDepth 100000
set_option maxHeartbeats 4000000
namespace Go.Proofs.YtekngilbecjkhaaGreatDoor
open Go.Sx Go.Proofs Go.Tb
abbrev strsA (l : List Str) : AV := .sl false 1 (l.map strRow)
theorem sameNames_ok (a b : List Str) : Pure Tryz.prog 17 [strsA a, strsA b] (.v (.bool (decide (a = b)))) := by
  refine Pure.runk (fun _ => 0) Tryz.func17 comp17 era17 (Nat.le_of_ble_eq_true rfl) fun σ => ?_
  repeat' (first | exact .nil | refine .k0 ?_ | refine .k1 ?_ | refine .k2 ?_ | refine .k6 ?_ | refine .k7 ?_ | refine .k9 ?_ | (refine .cd ?_ ?_ <;> (intro hc; skip)) | refine .r1 ?_ ?_ | (refine .m2 ?_ ?_; intro hlen) | fail)
  try any_goals ((intro hob; fail))
  all_goals (try simp only [BL] at *)
  · refine Sx.Fin.intro (by repeat' first | exact .refl _ | fail) (bf ?_)
    intro e; subst e; omega
  refine WK_loop (fun n rg σ' => ∃ i : Nat, i ≤ a.length ∧ n = a.length - i ∧ (∀ j, j < i → a.getD j default = b.getD j default) ∧ σ' = σ ∧ rg = [(0, strsA a), (1, strsA b), (5, iv i)]) a.length rfl ⟨_, _, by repeat' first | exact .refl _ | fail, by repeat' first | exact .refl _ | fail, 0, Nat.zero_le _, rfl, fun j hj => absurd hj (by omega), rfl, rfl⟩ ?_
  rintro n _ _ ⟨i, hi, hn, hp, rfl, rfl⟩
  repeat' (first | exact .nil | refine .k0 ?_ | refine .k1 ?_ | refine .k2 ?_ | refine .k5 ?_ | refine .k6 ?_ | refine .k7 ?_ | refine .k8 ?_ | refine .k9 ?_ | (refine .cd ?_ ?_ <;> (intro hc; skip)) | refine .r1 ?_ ?_ | (refine .m2 ?_ ?_; intro hlen) | refine .t1 ?_ ?_ ?_ | fail)
  try any_goals ((intro hob; first | (simp_all; done) | fail))
  all_goals (try simp only [BL] at *)
  · refine Sx.Fin.intro (by repeat' first | exact .refl _ | fail) (bf ?_)
    intro e; subst e; exact hc rfl
  · refine ⟨a.length - (i + 1), by omega, _, _, by repeat' first | exact .refl _ | fail, by repeat' first | exact .refl _ | fail, i + 1, by omega, rfl, cons_lt hp hc, rfl, by rw [up1 (n := a.length) (by omega) (by assumption)]⟩
  · refine Sx.Fin.intro (by repeat' first | exact .refl _ | fail) (bt ?_)
    refine List.ext_getElem (by omega) fun j h1 h2 => ?_
    have := hp j (by omega)
    rwa [getD_eq h1, getD_eq h2] at this
end Go.Proofs.YtekngilbecjkhaaGreatDoor
