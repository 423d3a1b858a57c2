/- The reference: lists of names. -/
import Derived.Test.YtekngilbecjkhaaGreatDoorCe
import Derived.Test.YtekngilbecjkhaaGreatDoorDa
import Derived.Test.YtekngilbecjkhaaGreatDoorCd
set_option linter.unusedSimpArgs false
set_option linter.unusedVariables false
set_option maxRecDepth 100000
set_option maxHeartbeats 4000000
namespace Go.Proofs.YtekngilbecjkhaaGreatDoor
open Go.Sx Go.Proofs Go.Tb
abbrev strsA (l : List Str) : AV := .sl false 1 (l.map strRow)
theorem sameNames_ok (a b : List Str) : Pure Tryz.prog 17 [strsA a, strsA b] (.v (.bool (decide (a = b)))) := by
  refine Pure.runk (fun _ => 0) Tryz.func17 comp17 era17 (Nat.le_of_ble_eq_true rfl) fun σ => ?_
  repeat' (first | exact .nil | refine .k0 ?_ | refine .k1 ?_ | refine .k2 ?_ | refine .k6 ?_ | refine .k7 ?_ | refine .k9 ?_ | (refine .cd ?_ ?_ <;> (intro hc; skip)) | refine .r1 ?_ ?_ | (refine .m2 ?_ ?_; intro hlen) | fail)
  try any_goals ((intro hob; fail))
  all_goals (try simp only [BL] at *)
  · refine Sx.Fin.intro (by repeat' first | exact .refl _ | fail) (bf ?_)
    intro e; subst e; omega
  refine WK_loop (fun n rg σ' => ∃ i : Nat, i ≤ a.length ∧ n = a.length - i ∧ (∀ j, j < i → a.getD j default = b.getD j default) ∧ σ' = σ ∧ rg = [(0, strsA a), (1, strsA b), (5, iv i)]) a.length rfl ⟨_, _, by repeat' first | exact .refl _ | fail, by repeat' first | exact .refl _ | fail, 0, Nat.zero_le _, rfl, fun j hj => absurd hj (by omega), rfl, rfl⟩ ?_
  rintro n _ _ ⟨i, hi, hn, hp, rfl, rfl⟩
  repeat' (first | exact .nil | refine .k0 ?_ | refine .k1 ?_ | refine .k2 ?_ | refine .k5 ?_ | refine .k6 ?_ | refine .k7 ?_ | refine .k8 ?_ | refine .k9 ?_ | (refine .cd ?_ ?_ <;> (intro hc; skip)) | refine .r1 ?_ ?_ | (refine .m2 ?_ ?_; intro hlen) | refine .t1 ?_ ?_ ?_ | fail)
  try any_goals ((intro hob; first | (simp_all; done) | fail))
  all_goals (try simp only [BL] at *)
  · refine Sx.Fin.intro (by repeat' first | exact .refl _ | fail) (bf ?_)
    intro e; subst e; exact hc rfl
  · refine ⟨a.length - (i + 1), by omega, _, _, by repeat' first | exact .refl _ | fail, by repeat' first | exact .refl _ | fail, i + 1, by omega, rfl, cons_lt hp hc, rfl, by rw [up1 (n := a.length) (by omega) (by assumption)]⟩
  · refine Sx.Fin.intro (by repeat' first | exact .refl _ | fail) (bt ?_)
    refine List.ext_getElem (by omega) fun j h1 h2 => ?_
    have := hp j (by omega)
    rwa [getD_eq h1, getD_eq h2] at this
end Go.Proofs.YtekngilbecjkhaaGreatDoor

/- The reference: features by name; names; what is directly used. -/
set_option linter.unusedSimpArgs false
set_option linter.unusedVariables false
set_option maxRecDepth 100000
set_option maxHeartbeats 4000000
namespace Go.Proofs.YtekngilbecjkhaaGreatDoor
open Go.Sx Go.Proofs Go.Tb
theorem find_no {fs : List Fea} {n : Str} (h : ∀ j, j < fs.length → ¬ (fs.getD j default).name = n) : findF fs n = none := by
  unfold findF
  rw [List.find?_eq_none]
  intro x hx
  obtain ⟨j, hj, rfl⟩ := List.getElem_of_mem hx
  have := h j hj
  rw [getD_eq hj] at this
  simpa using this
theorem find_at {fs : List Fea} {n : Str} {i : Nat} (hi : i < fs.length) (h : ∀ j, j < i → ¬ (fs.getD j default).name = n) (hn : (fs.getD i default).name = n) : findF fs n = some (fs.getD i default) := by
  unfold findF
  rw [getD_eq hi] at hn ⊢
  rw [List.find?_eq_some_iff_getElem]
  refine ⟨by simpa using hn, i, hi, rfl, fun j hj => ?_⟩
  have := h j hj
  rw [getD_eq (Nat.lt_trans hj hi)] at this
  simpa using this
theorem find12_ok (fs : List Fea) (n : Str) (o : Option Fea) (h : findF fs n = o) : Pure Tryz.prog 60 [.sl false 18 (fs.map Fea.cells), sv n] (foundF o) := by
  subst h
  refine Pure.runk (fun _ => 0) Tryz.func60 comp60 era60 (Nat.le_of_ble_eq_true rfl) fun σ => ?_
  repeat' (first | exact .nil | refine .k0 ?_ | refine .k1 ?_ | refine .k2 ?_ | refine .k6 ?_ | refine .r1 ?_ ?_ | (refine .l1 ?_; intro b) | fail)
  try any_goals ((intro hob; fail))
  all_goals (try simp only [BL] at *)
  refine WK_loop (fun m rg σ' => ∃ i : Nat, i ≤ fs.length ∧ m = fs.length - i ∧ (∀ j, j < i → ¬ (fs.getD j default).name = n) ∧ σ' = (4, b, Blk.cells feaZ) :: σ ∧ rg = [(0, .sl false 18 (fs.map Fea.cells)), (1, sv n), (4, .lp 4 b 0), (6, iv i)]) fs.length rfl ⟨_, _, by repeat' first | exact .refl _ | fail, by repeat' first | exact .refl _ | fail, 0, Nat.zero_le _, rfl, fun j hj => absurd hj (by omega), rfl, rfl⟩ ?_
  rintro m _ _ ⟨i, hi, hn, hp, rfl, rfl⟩
  repeat' (first | exact .nil | refine .k0 ?_ | refine .k1 ?_ | refine .k2 ?_ | refine .k6 ?_ | refine .k7 ?_ | refine .k8 ?_ | refine .k9 ?_ | (refine .cd ?_ ?_ <;> (intro hc; skip)) | refine .r1 ?_ ?_ | (refine .m2 ?_ ?_; intro hlen) | refine .t1 ?_ ?_ ?_ | fail)
  try any_goals ((intro hob; first | (simp_all; done) | fail))
  all_goals (try simp only [BL] at *)
  · rw [find_at (by omega) hp hc]
    (refine Sx.Fin.wk (by repeat' first | exact .refl _ | refine .cons ?_) ?_; repeat' first | exact .refl _ | fail)
  · refine ⟨fs.length - (i + 1), by omega, _, _, by repeat' first | exact .refl _ | fail, by repeat' first | exact .refl _ | fail, i + 1, by omega, rfl, cons_lt hp hc, rfl, by rw [up1 (n := fs.length) (by omega) (by assumption)]⟩
  · rw [find_no (fun j hj => hp j (by omega))]
    (refine Sx.Fin.wk (by repeat' first | exact .refl _ | refine .cons ?_) ?_; repeat' first | exact .refl _ | fail)
end Go.Proofs.YtekngilbecjkhaaGreatDoor
