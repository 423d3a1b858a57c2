/- The law LeaseClocks. -/
import Derived.Test.YtcibmkacgfhnkaaFnj
set_option linter.unusedSimpArgs false
set_option linter.unusedVariables false
set_option maxRecDepth 100000
set_option maxHeartbeats 2000000
namespace Go.Proofs.Ytcibmkacgfhnkaa
open Go.Sx Go.Proofs

theorem newF_ok {len d : Int} (h1 : 1 ≤ len) (h2 : len ≤ 1099511627776) (h3 : 0 ≤ d) (h4 : d ≤ 500) : (St.mk 0 len d []).Valid ∧ newF len d = (⟨0, len, d, []⟩, 0) := by
  have hv : (St.mk 0 len d []).Valid := by
    refine ⟨?_, (show ∀ x ∈ ([] : List Lease), x.Own from fun x hx => by cases hx), (fun x hx => by cases hx), List.Pairwise.nil⟩
    simp only [Tick, Lease.Own, St.Num]
    omega
  exact ⟨hv, by rw [newF, if_pos hv]⟩

theorem slowF_of {s : St} {n : Int} (hv : s.Valid) (h0 : 0 ≤ n) (h1 : n ≤ 1099511627776) : slowF s n = n - n * s.drift / 1000 := by
  rw [slowF, if_pos ⟨hv, h0, h1⟩]

theorem mul500 {n d : Int} (h0 : 0 ≤ n) (h2 : 0 ≤ d) (h3 : d ≤ 500) : 0 ≤ n * d ∧ n * d ≤ n * 500 := ⟨Int.mul_nonneg h0 h2, Int.mul_le_mul_of_nonneg_left h3 h0⟩

theorem clocks_ok (d n m : Int) : Pure Try.prog 8 [.v (.int .i64 d), .v (.int .i64 n), .v (.int .i64 m)] (.v (.bool true)) := by
  refine Pure.runk (fun _ => 0) Try.func8 comp8 era8 (by simp [c8]) fun σ => ?_
  repeat' (first
    | (show OB _; first | exact OB.nil | refine OB.rfl ?_ | refine OB.tr ?_ | refine OB.grfl ?_ | refine OB.gtr ?_ | refine OB.self ?_ | refine OB.and ?_ | refine OB.cons ?_ ?_)
    | (show FK _ _ _ _ _ _ _ _; first | refine FK_seq ?_ | refine FK_blk ?_ | refine FK_fn ?_ | refine FK_nil ?_)
    | (show WK _ _ _ _ _ _ _ _; first
      | refine WK_keep rfl ?_
      | refine WK_seq ?_
      | refine WK_reg rfl ?_
      | refine WK_mreg rfl ?_
      | (fail)
      | refine WK_dreg rfl ?_
      | refine WK_block ?_
      | refine WK_ret ?_
      | refine WK_exit rfl ?_
      | refine WK_skip ?_
      | (refine WK_cond rfl ?_ ?_ <;> first | with_reducible exact skipTF | with_reducible exact skipFT | intro hc))
    | (show VX _ _ _ _ _ _ _; first
      | refine VX_run rfl rfl ?_ ?_
      | refine VX_nil ?_
      | (refine VX_alloc rfl ?_; intro b)
      | (refine VX_box rfl rfl ?_ ?_; rotate_left; intro b)
      | (refine VX_len rfl rfl ?_ ?_; rotate_left; intro hlen)
      | (refine VX_lenr rfl rfl ?_ ?_; rotate_left; intro hlen)
      | refine VX_iad rfl rfl rfl ?_ ?_ ?_
      | refine VX_slh rfl rfl rfl ?_ ?_ ?_
      | refine VX_sll rfl rfl rfl ?_ ?_ ?_
      | refine VX_slb rfl rfl rfl rfl ?_ ?_ ?_
      | (refine VX_mk0 rfl (by decide) ?_; intro b)
      | (refine VX_app0 rfl rfl ?_ ?_ ?_ (fun b u c => ?_))
      | (refine VX_app rfl rfl rfl ?_ ?_ ?_ (fun b u c => ?_))
      | refine VX_call rfl (by first | fail | exact new_ok _ _ | exact newR_ok _ _ | exact adv_ok _ _ | exact advR_ok _ _ | exact grant_ok _ _ _ _ | exact grantR_ok _ _ _ _ | exact slow_ok _ _ | exact slowR_ok _ _ | exact local_ok _ _ _ | exact localR_ok _ _ _ | exact isValid_ok _ _ | exact same_ok _ _ | exact around_ok _ _ (by omega) (by omega) | exact few60_ok _ _ | exact few80_ok _ _ | exact example_ok | exact adv_ok' _ _ _ _ _ | exact advR_ok' _ _ _ _ _ | exact slow_ok' _ _ _ _ _ | exact slowR_ok' _ _ _ _ _ | exact local_ok' _ _ _ _ _ _ | exact localR_ok' _ _ _ _ _ _ | exact grant_ok' _ _ _ _ _ _ _ | exact grantR_ok' _ _ _ _ _ _ _) ?_ ?_
      | refine VX_callv rfl rfl (by rfl) (by first | fail | exact new_ok _ _ | exact newR_ok _ _ | exact adv_ok _ _ | exact advR_ok _ _ | exact grant_ok _ _ _ _ | exact grantR_ok _ _ _ _ | exact slow_ok _ _ | exact slowR_ok _ _ | exact local_ok _ _ _ | exact localR_ok _ _ _ | exact isValid_ok _ _ | exact same_ok _ _ | exact around_ok _ _ (by omega) (by omega) | exact few60_ok _ _ | exact few80_ok _ _ | exact example_ok | exact adv_ok' _ _ _ _ _ | exact advR_ok' _ _ _ _ _ | exact slow_ok' _ _ _ _ _ | exact slowR_ok' _ _ _ _ _ | exact local_ok' _ _ _ _ _ _ | exact localR_ok' _ _ _ _ _ _ | exact grant_ok' _ _ _ _ _ _ _ | exact grantR_ok' _ _ _ _ _ _ _) ?_ ?_
      | refine VX_det rfl ?_ ?_
      | refine VX_ld1 rfl (by first | rfl | fail) ?_ (by first | fail | fail) ?_ ?_
      | refine VX_lda rfl (by first | rfl | fail) ?_ (by first | fail | fail) ?_ ?_
      | refine VX_st rfl rfl (by first | rfl | fail) ?_ (by rfl) (by first | fail | fail) ?_ ?_)
    | (show VY _ _ _ _ _ _ _; first
      | refine VY_run rfl rfl ?_ ?_
      | refine VY_nil ?_
      | (refine VY_alloc rfl ?_; intro b)
      | (refine VY_box rfl rfl ?_ ?_; rotate_left; intro b)
      | refine VY_len rfl rfl ?_ ?_
      | refine VY_lenr rfl rfl ?_ ?_
      | refine VY_iad rfl rfl rfl ?_ ?_ ?_
      | refine VY_call rfl (by first | fail | exact new_ok _ _ | exact newR_ok _ _ | exact adv_ok _ _ | exact advR_ok _ _ | exact grant_ok _ _ _ _ | exact grantR_ok _ _ _ _ | exact slow_ok _ _ | exact slowR_ok _ _ | exact local_ok _ _ _ | exact localR_ok _ _ _ | exact isValid_ok _ _ | exact same_ok _ _ | exact around_ok _ _ (by omega) (by omega) | exact few60_ok _ _ | exact few80_ok _ _ | exact example_ok | exact adv_ok' _ _ _ _ _ | exact advR_ok' _ _ _ _ _ | exact slow_ok' _ _ _ _ _ | exact slowR_ok' _ _ _ _ _ | exact local_ok' _ _ _ _ _ _ | exact localR_ok' _ _ _ _ _ _ | exact grant_ok' _ _ _ _ _ _ _ | exact grantR_ok' _ _ _ _ _ _ _) ?_ ?_
      | refine VY_callv rfl rfl (by rfl) (by first | fail | exact new_ok _ _ | exact newR_ok _ _ | exact adv_ok _ _ | exact advR_ok _ _ | exact grant_ok _ _ _ _ | exact grantR_ok _ _ _ _ | exact slow_ok _ _ | exact slowR_ok _ _ | exact local_ok _ _ _ | exact localR_ok _ _ _ | exact isValid_ok _ _ | exact same_ok _ _ | exact around_ok _ _ (by omega) (by omega) | exact few60_ok _ _ | exact few80_ok _ _ | exact example_ok | exact adv_ok' _ _ _ _ _ | exact advR_ok' _ _ _ _ _ | exact slow_ok' _ _ _ _ _ | exact slowR_ok' _ _ _ _ _ | exact local_ok' _ _ _ _ _ _ | exact localR_ok' _ _ _ _ _ _ | exact grant_ok' _ _ _ _ _ _ _ | exact grantR_ok' _ _ _ _ _ _ _) ?_ ?_
      | refine VY_det rfl ?_ ?_
      | refine VY_ld1 rfl (by first | rfl | fail) ?_ (by first | fail | fail) (by rfl) ?_ ?_
      | refine VY_lda rfl (by first | rfl | fail) ?_ (by first | fail | fail) (by rfl) ?_ ?_
      | refine VY_st rfl rfl (by first | rfl | fail) ?_ (by rfl) (by first | fail | fail) (by rfl) ?_ ?_)
    | (show List.all _ _ = true; rfl)
    | (show (_ : Nat) = _; rfl)
    | (show LoopW _ _ _ _ _; refine LoopW.intro rfl ?_)
    | (show retQ _ _ _ _ _; first | refine retQk_r rfl ?_ ?_ | refine retQk_n rfl ?_ ?_)
    | (show pureQ _ _ _ _ _ _; first | refine pureQk_r rfl ?_ ?_ | refine pureQk_n rfl ?_ ?_))
  refine Sx.Fin.intro (by repeat' (first | exact Sub.refl _ | refine Sub.same ?_ | refine Sub.cons ?_)) (btrue ?_)
  have d0 := Int.emod_nonneg d (b := 501) (by omega)
  have d1 := Int.emod_lt_of_pos d (b := 501) (by omega)
  have a0 := Int.emod_nonneg n (b := 1000000001) (by omega)
  have a1 := Int.emod_lt_of_pos n (b := 1000000001) (by omega)
  have b0 := Int.emod_nonneg m (b := 1000000001) (by omega)
  have b1 := Int.emod_lt_of_pos m (b := 1000000001) (by omega)
  generalize d % 501 = d at *
  generalize n % 1000000001 = a at *
  generalize m % 1000000001 = b at *
  obtain ⟨hv, hn⟩ := newF_ok (len := 10) (d := d) (by omega) (by omega) d0 (by omega)
  have hA := mul500 a0 d0 (show d ≤ 500 by omega)
  have hB := mul500 b0 d0 (show d ≤ 500 by omega)
  have hC : (a + b) * d = a * d + b * d := Int.add_mul _ _ _
  rw [i64w (n := a + b) (by omega), hn]
  simp only
  rw [slowF_of hv a0 (by omega), slowF_of hv b0 (by omega), slowF_of hv (n := a + b) (by omega) (by omega)]
  simp only [hC]
  generalize a * d = A at *
  generalize b * d = B at *
  rw [i64w (n := a - A / 1000 + (b - B / 1000)) (by omega), i64w (n := 2 * (a - A / 1000)) (by omega)]
  simp only [decide_eq_true_eq, decide_eq_false_iff_not, Bool.not_true, Bool.not_false, Bool.not_eq_true', Bool.not_eq_false', Bool.and_eq_true, Bool.or_eq_true, Bool.and_eq_false_iff, Bool.or_eq_false_iff, Bool.true_and, Bool.and_true, Bool.false_or, Bool.or_false, Option.getD_some, Option.getD_none, forall_const, true_implies, ne_eq, eq_self, Int.toNat_natCast, Bool.xor_true, Bool.xor_false, beq_iff_eq, decide_eq_decide, and_true, true_and]
  omega
end Go.Proofs.Ytcibmkacgfhnkaa
