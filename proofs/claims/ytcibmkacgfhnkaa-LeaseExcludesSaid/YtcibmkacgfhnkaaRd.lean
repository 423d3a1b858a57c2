/- How the arguments of the lease laws read. -/
import Derived.Test.YtcibmkacgfhnkaaFnj
import Derived.Test.YtcibmkacgfhnkaaSxB
set_option linter.unusedSimpArgs false
set_option linter.unusedVariables false
namespace Go.Proofs.Ytcibmkacgfhnkaa
open Go.Sx Go.Proofs

structure Act where
  kind : Int
  n : Int
  r : Int
  w : Int
  jump : Int
deriving Inhabited
def Act.cells (a : Act) : List AV := [E a.kind, E a.n, E a.r, E a.w, E a.jump]

theorem own : ownKnob Try.prog.godebug = none := by kernel_rfl
theorem laid : laidOutB Try.prog = true := by kernel_rfl

section
variable {H : Type} {enc : TypeId × Value → H} {W : World}
theorem rd_int (n : Nat) : Rd enc Try.prog W n 3 fun l => ∃ z : Int, l = [E z] := (Rd.int Try.underlying3).mono fun l ⟨z, h, _⟩ => ⟨z, h⟩
theorem rd_lease : ∀ n : Nat, Rd enc Try.prog W n 34 fun l => ∃ x : Lease, l = x.cells
  | 0 => Rd.zero _ _
  | n + 1 => (Rd.struct Try.underlying34 (by kernel_rfl) (.cons (rd_int n) (.cons (rd_int n) (.cons (rd_int n) (.cons (rd_int n) (.cons (rd_int n) .nil)))))).mono (by
    rintro _ ⟨_, _, rfl, ⟨a, rfl⟩, _, _, rfl, ⟨b, rfl⟩, _, _, rfl, ⟨c, rfl⟩, _, _, rfl, ⟨d, rfl⟩, _, _, rfl, ⟨e, rfl⟩, rfl⟩
    exact ⟨⟨a, b, c, d, e⟩, rfl⟩)
theorem rd_act : ∀ n : Nat, Rd enc Try.prog W n 32 fun l => ∃ x : Act, l = x.cells
  | 0 => Rd.zero _ _
  | n + 1 => (Rd.struct Try.underlying32 (by kernel_rfl) (.cons (rd_int n) (.cons (rd_int n) (.cons (rd_int n) (.cons (rd_int n) (.cons (rd_int n) .nil)))))).mono (by
    rintro _ ⟨_, _, rfl, ⟨a, rfl⟩, _, _, rfl, ⟨b, rfl⟩, _, _, rfl, ⟨c, rfl⟩, _, _, rfl, ⟨d, rfl⟩, _, _, rfl, ⟨e, rfl⟩, rfl⟩
    exact ⟨⟨a, b, c, d, e⟩, rfl⟩)
theorem rd_leases : ∀ n : Nat, Rd enc Try.prog W n 23 fun l => ∃ ls : List Lease, l = [.sl false 5 (ls.map Lease.cells)]
  | 0 => Rd.zero _ _
  | n + 1 => (Rd.slice Try.underlying23 (esz := 5) (by kernel_rfl) (by decide) (rd_lease n)).mono (by
    rintro _ ⟨rows, rfl, _, h⟩
    obtain ⟨ls, rfl, _⟩ := rows_map (f := Lease.cells) (W := fun _ => True) (fun r hr => by obtain ⟨x, h⟩ := h r hr; exact ⟨x, h, trivial⟩)
    exact ⟨ls, rfl⟩)
theorem rd_acts : ∀ n : Nat, Rd enc Try.prog W n 22 fun l => ∃ ls : List Act, l = [.sl false 5 (ls.map Act.cells)]
  | 0 => Rd.zero _ _
  | n + 1 => (Rd.slice Try.underlying22 (esz := 5) (by kernel_rfl) (by decide) (rd_act n)).mono (by
    rintro _ ⟨rows, rfl, _, h⟩
    obtain ⟨ls, rfl, _⟩ := rows_map (f := Act.cells) (W := fun _ => True) (fun r hr => by obtain ⟨x, h⟩ := h r hr; exact ⟨x, h, trivial⟩)
    exact ⟨ls, rfl⟩)
theorem rd_St : ∀ n : Nat, Rd enc Try.prog W n 25 fun l => ∃ s : St, l = s.cells
  | 0 => Rd.zero _ _
  | n + 1 => (Rd.struct Try.underlying25 (by kernel_rfl) (.cons (rd_int n) (.cons (rd_int n) (.cons (rd_int n) (.cons (rd_leases n) .nil))))).mono (by
    rintro _ ⟨_, _, rfl, ⟨a, rfl⟩, _, _, rfl, ⟨b, rfl⟩, _, _, rfl, ⟨c, rfl⟩, _, _, rfl, ⟨d, rfl⟩, rfl⟩
    exact ⟨⟨a, b, c, d⟩, rfl⟩)
end
end Go.Proofs.Ytcibmkacgfhnkaa
