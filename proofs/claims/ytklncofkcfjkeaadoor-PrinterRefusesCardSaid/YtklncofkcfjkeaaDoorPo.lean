
/- Texts of expressions: the reference's walk. -/
import Derived.Test.YtklncofkcfjkeaaDoorPl
set_option linter.unusedSimpArgs false
set_option linter.unusedVariables false
set_option maxRecDepth 100000
set_option maxHeartbeats 4000000
namespace Go.Proofs.YtklncofkcfjkeaaDoor
open Go.Sx Go.Proofs
theorem par_iff {x : Ex} (h : parOK x) : x.param = 0 ↔ ¬ (x.op = ⟨#[113, 117, 97, 110, 116, 105, 108, 101]⟩ ∨ x.op = ⟨#[100, 101, 99, 97, 121]⟩) := by
  unfold parOK at h
  split at h
  · rename_i e; constructor
    · intro e2; omega
    · intro e2; exact absurd (.inl e) e2
  · split at h
    · rename_i e; constructor
      · intro e2; omega
      · intro e2; exact absurd (.inr e) e2
    · rename_i e1 e2
      exact ⟨fun _ h => h.elim e1 e2, fun _ => h⟩
theorem c_q : (⟨#[99, 111, 117, 110, 116]⟩ : Str) ≠ ⟨#[113, 117, 97, 110, 116, 105, 108, 101]⟩ ∧ (⟨#[99, 111, 117, 110, 116]⟩ : Str) ≠ ⟨#[100, 101, 99, 97, 121]⟩ := by decide
end Go.Proofs.YtklncofkcfjkeaaDoor
