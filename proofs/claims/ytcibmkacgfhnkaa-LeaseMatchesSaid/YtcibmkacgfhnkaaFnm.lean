/- The law LeaseMatches. -/
import Derived.Test.YtcibmkacgfhnkaaRd
set_option linter.unusedSimpArgs false
set_option linter.unusedVariables false
set_option maxRecDepth 100000
set_option maxHeartbeats 2000000
namespace Go.Proofs.Ytcibmkacgfhnkaa
open Go.Sx Go.Proofs

theorem matches_ok (length drift : Int) (ls : List Act) : Pure Try.prog 3 [.v (.int .i64 length), .v (.int .i64 drift), .sl false 5 (ls.map Act.cells)] (.v (.bool true)) := by
  refine Pure.runk (fun _ => 0) Try.func3 comp3 era3 (by simp [c3]) fun σ => ?_
  repeat' (first
    | (show OB _; first | exact OB.nil | refine OB.rfl ?_ | refine OB.tr ?_ | refine OB.grfl ?_ | refine OB.gtr ?_ | refine OB.self ?_ | refine OB.and ?_ | refine OB.cons ?_ ?_)
    | (show FK _ _ _ _ _ _ _ _; first | refine FK_seq ?_ | refine FK_blk ?_ | refine FK_fn ?_ | refine FK_nil ?_)
    | (show WK _ _ _ _ _ _ _ _; first
      | refine WK_keep rfl ?_
      | refine WK_seq ?_
      | refine WK_reg rfl ?_
      | refine WK_mreg rfl ?_
      | refine WK_dreg rfl ?_
      | refine WK_block ?_
      | refine WK_ret ?_
      | refine WK_exit rfl ?_
      | refine WK_skip ?_
      | (refine WK_cond rfl ?_ ?_ <;> first | with_reducible exact skipTF | with_reducible exact skipFT | intro hc))
    | (show VX _ _ _ _ _ _ _; first
      | refine VX_run rfl rfl ?_ ?_
      | refine VX_nil ?_
      | (refine VX_alloc rfl ?_; intro b)
      | (refine VX_box rfl rfl ?_ ?_; rotate_left; intro b)
      | (refine VX_len rfl rfl ?_ ?_; rotate_left; intro hlen)
      | (refine VX_lenr rfl rfl ?_ ?_; rotate_left; intro hlen)
      | refine VX_iad rfl rfl rfl ?_ ?_ ?_
      | refine VX_slh rfl rfl rfl ?_ ?_ ?_
      | refine VX_sll rfl rfl rfl ?_ ?_ ?_
      | refine VX_slb rfl rfl rfl rfl ?_ ?_ ?_
      | (refine VX_mk0 rfl (by decide) ?_; intro b)
      | (refine VX_app0 rfl rfl ?_ ?_ ?_ (fun b u c => ?_))
      | (refine VX_app rfl rfl rfl ?_ ?_ ?_ (fun b u c => ?_))
      | refine VX_call rfl (by first | fail | exact new_ok _ _ | exact newR_ok _ _ | exact adv_ok _ _ | exact advR_ok _ _ | exact grant_ok _ _ _ _ | exact grantR_ok _ _ _ _ | exact slow_ok _ _ | exact slowR_ok _ _ | exact local_ok _ _ _ | exact localR_ok _ _ _ | exact isValid_ok _ _ | exact same_ok _ _ | exact around_ok _ _ (by omega) (by omega) | exact few60_ok _ _ | exact few80_ok _ _ | exact example_ok) ?_ ?_
      | refine VX_callv rfl rfl (by rfl) (by first | fail | exact new_ok _ _ | exact newR_ok _ _ | exact adv_ok _ _ | exact advR_ok _ _ | exact grant_ok _ _ _ _ | exact grantR_ok _ _ _ _ | exact slow_ok _ _ | exact slowR_ok _ _ | exact local_ok _ _ _ | exact localR_ok _ _ _ | exact isValid_ok _ _ | exact same_ok _ _ | exact around_ok _ _ (by omega) (by omega) | exact few60_ok _ _ | exact few80_ok _ _ | exact example_ok) ?_ ?_
      | refine VX_det rfl ?_ ?_)
    | (show VY _ _ _ _ _ _ _; first
      | refine VY_run rfl rfl ?_ ?_
      | refine VY_nil ?_
      | (refine VY_alloc rfl ?_; intro b)
      | (refine VY_box rfl rfl ?_ ?_; rotate_left; intro b)
      | refine VY_len rfl rfl ?_ ?_
      | refine VY_lenr rfl rfl ?_ ?_
      | refine VY_iad rfl rfl rfl ?_ ?_ ?_
      | refine VY_call rfl (by first | fail | exact new_ok _ _ | exact newR_ok _ _ | exact adv_ok _ _ | exact advR_ok _ _ | exact grant_ok _ _ _ _ | exact grantR_ok _ _ _ _ | exact slow_ok _ _ | exact slowR_ok _ _ | exact local_ok _ _ _ | exact localR_ok _ _ _ | exact isValid_ok _ _ | exact same_ok _ _ | exact around_ok _ _ (by omega) (by omega) | exact few60_ok _ _ | exact few80_ok _ _ | exact example_ok) ?_ ?_
      | refine VY_callv rfl rfl (by rfl) (by first | fail | exact new_ok _ _ | exact newR_ok _ _ | exact adv_ok _ _ | exact advR_ok _ _ | exact grant_ok _ _ _ _ | exact grantR_ok _ _ _ _ | exact slow_ok _ _ | exact slowR_ok _ _ | exact local_ok _ _ _ | exact localR_ok _ _ _ | exact isValid_ok _ _ | exact same_ok _ _ | exact around_ok _ _ (by omega) (by omega) | exact few60_ok _ _ | exact few80_ok _ _ | exact example_ok) ?_ ?_
      | refine VY_det rfl ?_ ?_)
    | (show List.all _ _ = true; rfl)
    | (show LoopW _ _ _ _ _; refine LoopW.intro rfl ?_)
    | (show retQ _ _ _ _ _; first | refine retQk_r rfl ?_ ?_ | refine retQk_n rfl ?_ ?_)
    | (show pureQ _ _ _ _ _ _; first | refine pureQk_r rfl ?_ ?_ | refine pureQk_n rfl ?_ ?_))
  try any_goals (intro hob;  first | (simp_all; done) | (simp only [decide_eq_true_eq, decide_eq_false_iff_not, Bool.not_true, Bool.not_false, Bool.not_eq_true', Bool.not_eq_false', Bool.and_eq_true, Bool.or_eq_true, Bool.and_eq_false_iff, Bool.or_eq_false_iff, Bool.true_and, Bool.and_true, Bool.false_or, Bool.or_false, Option.getD_some, Option.getD_none, forall_const, true_implies, ne_eq, eq_self, Int.toNat_natCast, Bool.xor_true, Bool.xor_false] at *; simp_all; done) | (simp only [decide_eq_true_eq, decide_eq_false_iff_not, Bool.not_true, Bool.not_false, Bool.not_eq_true', Bool.not_eq_false', Bool.and_eq_true, Bool.or_eq_true, Bool.and_eq_false_iff, Bool.or_eq_false_iff, Bool.true_and, Bool.and_true, Bool.false_or, Bool.or_false, Option.getD_some, Option.getD_none, forall_const, true_implies, ne_eq, eq_self, Int.toNat_natCast, Bool.xor_true, Bool.xor_false] at *; omega))
  · simp at hc
  rename_i b7
  revert b
  intro b9
  generalize (newF length drift).fst = s0
  generalize List.take 60 ls = acts
  clear hc
  refine WK_loop (fun n rg σ' => ∃ i : Nat, i ≤ acts.length ∧ n = acts.length - i ∧ ∃ s : St, σ' = (9, b9, .cells s.cells) :: (7, b7, .cells s.cells) :: σ ∧ rg = [(7, .lp 7 b7 0), (9, .lp 9 b9 0), (11, .sl false 5 (acts.map Act.cells)), (12, .v (.int .i64 i))]) acts.length rfl ⟨_, _, by repeat' (first | exact WkRL.refl _ | refine WkRL.cons ?_ ?_ | exact Wk.refl _ | exact WkL.nil | refine WkL.cons ?_ ?_ | refine Wk.tup ?_ | refine Wk.agg ?_ | exact Wk.nil | exact Wk.sl | exact Wk.own _ | exact Wk.tag), by repeat' (first | exact Sub.refl _ | refine Sub.same ?_ | refine Sub.cons ?_), 0, Nat.zero_le _, rfl, s0, by rfl, by rfl⟩ ?_
  rintro n _ _ ⟨i, hi, hn, s, rfl, rfl⟩
  repeat' (first
    | (show OB _; first | exact OB.nil | refine OB.rfl ?_ | refine OB.tr ?_ | refine OB.grfl ?_ | refine OB.gtr ?_ | refine OB.self ?_ | refine OB.and ?_ | refine OB.cons ?_ ?_)
    | (show FK _ _ _ _ _ _ _ _; first | refine FK_seq ?_ | refine FK_blk ?_ | refine FK_fn ?_ | refine FK_nil ?_)
    | (show WK _ _ _ _ _ _ _ _; first
      | refine WK_keep rfl ?_
      | refine WK_seq ?_
      | refine WK_reg rfl ?_
      | refine WK_mreg rfl ?_
      | refine WK_dreg rfl ?_
      | refine WK_block ?_
      | refine WK_ret ?_
      | refine WK_exit rfl ?_
      | refine WK_skip ?_
      | (refine WK_cond rfl ?_ ?_ <;> first | with_reducible exact skipTF | with_reducible exact skipFT | intro hc))
    | (show VX _ _ _ _ _ _ _; first
      | refine VX_run rfl rfl ?_ ?_
      | refine VX_nil ?_
      | (refine VX_alloc rfl ?_; intro b)
      | (refine VX_box rfl rfl ?_ ?_; rotate_left; intro b)
      | (refine VX_len rfl rfl ?_ ?_; rotate_left; intro hlen)
      | (refine VX_lenr rfl rfl ?_ ?_; rotate_left; intro hlen)
      | refine VX_iad rfl rfl rfl ?_ ?_ ?_
      | refine VX_slh rfl rfl rfl ?_ ?_ ?_
      | refine VX_sll rfl rfl rfl ?_ ?_ ?_
      | refine VX_slb rfl rfl rfl rfl ?_ ?_ ?_
      | (refine VX_mk0 rfl (by decide) ?_; intro b)
      | (refine VX_app0 rfl rfl ?_ ?_ ?_ (fun b u c => ?_))
      | (refine VX_app rfl rfl rfl ?_ ?_ ?_ (fun b u c => ?_))
      | refine VX_call rfl (by first | fail | exact new_ok _ _ | exact newR_ok _ _ | exact adv_ok _ _ | exact advR_ok _ _ | exact grant_ok _ _ _ _ | exact grantR_ok _ _ _ _ | exact slow_ok _ _ | exact slowR_ok _ _ | exact local_ok _ _ _ | exact localR_ok _ _ _ | exact isValid_ok _ _ | exact same_ok _ _ | exact around_ok _ _ (by omega) (by omega) | exact few60_ok _ _ | exact few80_ok _ _ | exact example_ok) ?_ ?_
      | refine VX_callv rfl rfl (by rfl) (by first | fail | exact new_ok _ _ | exact newR_ok _ _ | exact adv_ok _ _ | exact advR_ok _ _ | exact grant_ok _ _ _ _ | exact grantR_ok _ _ _ _ | exact slow_ok _ _ | exact slowR_ok _ _ | exact local_ok _ _ _ | exact localR_ok _ _ _ | exact isValid_ok _ _ | exact same_ok _ _ | exact around_ok _ _ (by omega) (by omega) | exact few60_ok _ _ | exact few80_ok _ _ | exact example_ok) ?_ ?_
      | refine VX_det rfl ?_ ?_)
    | (show VY _ _ _ _ _ _ _; first
      | refine VY_run rfl rfl ?_ ?_
      | refine VY_nil ?_
      | (refine VY_alloc rfl ?_; intro b)
      | (refine VY_box rfl rfl ?_ ?_; rotate_left; intro b)
      | refine VY_len rfl rfl ?_ ?_
      | refine VY_lenr rfl rfl ?_ ?_
      | refine VY_iad rfl rfl rfl ?_ ?_ ?_
      | refine VY_call rfl (by first | fail | exact new_ok _ _ | exact newR_ok _ _ | exact adv_ok _ _ | exact advR_ok _ _ | exact grant_ok _ _ _ _ | exact grantR_ok _ _ _ _ | exact slow_ok _ _ | exact slowR_ok _ _ | exact local_ok _ _ _ | exact localR_ok _ _ _ | exact isValid_ok _ _ | exact same_ok _ _ | exact around_ok _ _ (by omega) (by omega) | exact few60_ok _ _ | exact few80_ok _ _ | exact example_ok) ?_ ?_
      | refine VY_callv rfl rfl (by rfl) (by first | fail | exact new_ok _ _ | exact newR_ok _ _ | exact adv_ok _ _ | exact advR_ok _ _ | exact grant_ok _ _ _ _ | exact grantR_ok _ _ _ _ | exact slow_ok _ _ | exact slowR_ok _ _ | exact local_ok _ _ _ | exact localR_ok _ _ _ | exact isValid_ok _ _ | exact same_ok _ _ | exact around_ok _ _ (by omega) (by omega) | exact few60_ok _ _ | exact few80_ok _ _ | exact example_ok) ?_ ?_
      | refine VY_det rfl ?_ ?_)
    | (show List.all _ _ = true; rfl)
    | (show LoopW _ _ _ _ _; refine LoopW.intro rfl ?_)
    | (show retQ _ _ _ _ _; first | refine retQk_r rfl ?_ ?_ | refine retQk_n rfl ?_ ?_)
    | (show pureQ _ _ _ _ _ _; first | refine pureQk_r rfl ?_ ?_ | refine pureQk_n rfl ?_ ?_))
  try any_goals (intro hob;  first | (simp_all; done) | (simp only [decide_eq_true_eq, decide_eq_false_iff_not, Bool.not_true, Bool.not_false, Bool.not_eq_true', Bool.not_eq_false', Bool.and_eq_true, Bool.or_eq_true, Bool.and_eq_false_iff, Bool.or_eq_false_iff, Bool.true_and, Bool.and_true, Bool.false_or, Bool.or_false, Option.getD_some, Option.getD_none, forall_const, true_implies, ne_eq, eq_self, Int.toNat_natCast, Bool.xor_true, Bool.xor_false] at *; simp_all; done) | (simp only [decide_eq_true_eq, decide_eq_false_iff_not, Bool.not_true, Bool.not_false, Bool.not_eq_true', Bool.not_eq_false', Bool.and_eq_true, Bool.or_eq_true, Bool.and_eq_false_iff, Bool.or_eq_false_iff, Bool.true_and, Bool.and_true, Bool.false_or, Bool.or_false, Option.getD_some, Option.getD_none, forall_const, true_implies, ne_eq, eq_self, Int.toNat_natCast, Bool.xor_true, Bool.xor_false] at *; omega))
  any_goals (exfalso; simp at hc; done)
  any_goals (refine Sx.Fin.wk (by repeat' (first | exact Sub.refl _ | refine Sub.same ?_ | refine Sub.cons ?_)) ?_; repeat' (first | exact Wk.refl _ | refine Wk.tup ?_ | refine Wk.agg ?_ | exact WkL.nil | refine WkL.cons ?_ ?_ | exact Wk.nil | exact Wk.sl | exact Wk.own _))
  all_goals (simp only [decide_eq_true_eq, decide_eq_false_iff_not, Bool.not_true, Bool.not_false, Bool.not_eq_true', Bool.not_eq_false', Bool.and_eq_true, Bool.or_eq_true, Bool.and_eq_false_iff, Bool.or_eq_false_iff, Bool.true_and, Bool.and_true, Bool.false_or, Bool.or_false, Option.getD_some, Option.getD_none, forall_const, true_implies, ne_eq, eq_self, Int.toNat_natCast, Bool.xor_true, Bool.xor_false] at hlen)
  all_goals (have hi2 : i < acts.length := by first | exact of_decide_eq_true hc | (have := of_decide_eq_true ‹decide ((i : Int) < (acts.length : Int)) = true›; omega))
  all_goals (refine ⟨acts.length - (i + 1), by omega, [(7, .lp 7 b7 0), (9, .lp 9 b9 0), (11, .sl false 5 (acts.map Act.cells)), (12, .v (.int .i64 ((i + 1 : Nat) : Int)))], _, (by rw [up1 hi2 hlen]; repeat' (first | exact WkRL.refl _ | refine WkRL.cons ?_ ?_ | exact Wk.refl _ | exact WkL.nil | refine WkL.cons ?_ ?_ | refine Wk.tup ?_ | refine Wk.agg ?_ | exact Wk.nil | exact Wk.sl | exact Wk.own _ | exact Wk.tag)), ?_, i + 1, by omega, rfl, ?_, rfl, rfl⟩; repeat' (first | exact Sub.refl _ | refine Sub.same ?_ | refine Sub.cons ?_))
end Go.Proofs.Ytcibmkacgfhnkaa
