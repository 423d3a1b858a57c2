/-
  The statement LeaseExcludes: no range is ever used by two workers. No condition: for every input.
-/
import Derived.Test.YtcibmkacgfhnkaaRd
import Derived.Test.YtcibmkacgfhnkaaFnp
import Derived.WalkKit
set_option linter.unusedVariables false
namespace Go.Proofs.Ytcibmkacgfhnkaa.leaseExcludes
open Go.ChangeShapes Go.WideShapes Go.ChangeAt Go.RowKit Go.Sx Go.Proofs

set_option maxRecDepth 100000 in
theorem lifted (os : Os) (started : os.Started) (H : Type) (enc : TypeId × Value → H) :
    ReturnsInHanded {} Try.checked os 5 .any (Rows.leaseExcludesSpec.pre6 enc Try.prog Try.f5 Rows.leaseExcludesRow.domain false) (Rows.leaseExcludesSpec.post enc Try.prog Try.f5 false true false false) := by
  refine returnsInHanded_of_change (C := Try.checked) own started (by kernel_rfl) Try.func5
    (ChangeSpec.witness6 (enc := enc) (C := Try.checked) false ⟨#[], #[.int .i64 0, .int .i64 0, .slice none 0 0], []⟩ 8 (by kernel_rfl) (by kernel_rfl) (by kernel_rfl) (by kernel_rfl)) ?_
  intro W base args ds gs before hval0 hW hcnd _
  have hval : ∀ (j : Nat) t v, Try.f5.params[j]? = some t → args[j]? = some v → Value.okWide Try.prog W .any base t v := hval0
  have hW' := hW
  obtain ⟨p, q, hA0, hV, rfl, _, _⟩ := hW
  have hA : DataW.TrodAll enc Try.prog W 0 (fun _ => true) true Try.f5.params.toList args.toList ds p := hA0
  rw [Try.params5] at hA hval
  obtain ⟨v0, vs0, d0, ds0, p0, q0, hargs, rfl, rfl, h0, r0⟩ := trodAll_cons hA
  obtain ⟨v1, vs1, d1, ds1, p1, q1, rfl, rfl, rfl, h1, r1⟩ := trodAll_cons r0
  obtain ⟨v2, vs2, d2, ds2, p2, q2, rfl, rfl, rfl, h2, r2⟩ := trodAll_cons r1
  obtain ⟨rfl, rfl, rfl⟩ := trodAll_nil r2
  obtain rfl : args = #[v0, v1, v2] := by cases args; simp_all
  obtain ⟨rfl, rfl⟩ := trodVars_none hV
  obtain ⟨x0, g0, a0, e0⟩ := arg_one (by kernel_rfl) (hval 0 3 v0 rfl rfl) h0 rd_int
  obtain rfl : x0 = E a0 := by simpa using e0
  obtain ⟨x1, g1, a1, e1⟩ := arg_one (by kernel_rfl) (hval 1 3 v1 rfl rfl) h1 rd_int
  obtain rfl : x1 = E a1 := by simpa using e1
  obtain ⟨x2, g2, a2, e2⟩ := arg_one (by kernel_rfl) (hval 2 22 v2 rfl rfl) h2 rd_acts
  obtain rfl : x2 = .sl false 5 (a2.map Act.cells) := by simpa using e2
  refine (Pure.calls (excludes_ok a0 a1 a2) (RL.cons g0 (RL.cons g1 (RL.cons g2 RL.nil)))).mono fun e W' ⟨he, hb⟩ => ?_
  subst he
  exact ⟨_, rfl, post_true laid (by kernel_rfl) rfl ⟨rfl, rfl, rfl⟩ rfl Try.underlying4 hW' hb⟩

theorem over : Rows.leaseExcludesRow.holds Try.pinned (OpenSpec.ofChange Rows.leaseExcludesSpec) :=
  OpenClaim.holds_of_wide 5 Try.f5 rfl rfl rfl rfl rfl rfl rfl ⟨rfl, rfl, rfl, rfl, rfl⟩ rfl rfl rfl rfl rfl (by kernel_rfl) Try.func5 (by kernel_rfl)
    (of_decide_eq_true (by kernel_rfl)) (by unfold Func.isWrapper; first | (rw [if_pos (by decide +kernel)]; kernel_rfl) | (rw [if_neg (by decide +kernel)]; exact ⟨rfl, rfl⟩))
    (fun os started H enc _ => lifted os started H enc)

theorem proved : Rows.LeaseExcludesSaid := over
end Go.Proofs.Ytcibmkacgfhnkaa.leaseExcludes
