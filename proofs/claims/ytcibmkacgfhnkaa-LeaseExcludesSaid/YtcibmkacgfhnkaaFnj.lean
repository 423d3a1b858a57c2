/- The worked example, and the laws LeaseRejects and LeaseClocks: the walks. -/
import Derived.Test.YtcibmkacgfhnkaaFni
set_option linter.unusedSimpArgs false
set_option linter.unusedVariables false
set_option maxRecDepth 100000
set_option maxHeartbeats 2000000
namespace Go.Proofs.Ytcibmkacgfhnkaa
open Go.Sx Go.Proofs

set_option maxHeartbeats 4000000 in
theorem example_ok : Pure Try.prog 21 [] (.v (.bool true)) := by
  refine Pure.runk (fun _ => 0) Try.func21 comp21 era21 (by simp [c21]) fun σ => ?_
  repeat' (first
    | (show OB _; first | exact OB.nil | refine OB.rfl ?_ | refine OB.tr ?_ | refine OB.grfl ?_ | refine OB.gtr ?_ | refine OB.self ?_ | refine OB.and ?_ | refine OB.cons ?_ ?_)
    | (show FK _ _ _ _ _ _ _ _; first | refine FK_seq ?_ | refine FK_blk ?_ | refine FK_fn ?_ | refine FK_nil ?_)
    | (show WK _ _ _ _ _ _ _ _; first
      | refine WK_keep rfl ?_
      | refine WK_seq ?_
      | refine WK_reg rfl ?_
      | refine WK_mreg rfl ?_
      | (fail)
      | refine WK_dreg rfl ?_
      | refine WK_block ?_
      | refine WK_ret ?_
      | refine WK_exit rfl ?_
      | refine WK_skip ?_
      | (refine WK_cond rfl ?_ ?_ <;> first | with_reducible exact skipTF | with_reducible exact skipFT | intro hc))
    | (show VX _ _ _ _ _ _ _; first
      | refine VX_run rfl rfl ?_ ?_
      | refine VX_nil ?_
      | (refine VX_alloc rfl ?_; intro b)
      | (refine VX_box rfl rfl ?_ ?_; rotate_left; intro b)
      | (refine VX_len rfl rfl ?_ ?_; rotate_left; intro hlen)
      | (refine VX_lenr rfl rfl ?_ ?_; rotate_left; intro hlen)
      | refine VX_iad rfl rfl rfl ?_ ?_ ?_
      | refine VX_slh rfl rfl rfl ?_ ?_ ?_
      | refine VX_sll rfl rfl rfl ?_ ?_ ?_
      | refine VX_slb rfl rfl rfl rfl ?_ ?_ ?_
      | (refine VX_mk0 rfl (by decide) ?_; intro b)
      | (refine VX_app0 rfl rfl ?_ ?_ ?_ (fun b u c => ?_))
      | (refine VX_app rfl rfl rfl ?_ ?_ ?_ (fun b u c => ?_))
      | refine VX_call rfl (by first | fail | exact new_ok _ _ | exact newR_ok _ _ | exact adv_ok _ _ | exact advR_ok _ _ | exact grant_ok _ _ _ _ | exact grantR_ok _ _ _ _ | exact slow_ok _ _ | exact slowR_ok _ _ | exact local_ok _ _ _ | exact localR_ok _ _ _ | exact isValid_ok _ _ | exact same_ok _ _ | exact around_ok _ _ (by omega) (by omega) | exact few60_ok _ _ | exact few80_ok _ _) ?_ ?_
      | refine VX_callv rfl rfl (by rfl) (by first | fail | exact new_ok _ _ | exact newR_ok _ _ | exact adv_ok _ _ | exact advR_ok _ _ | exact grant_ok _ _ _ _ | exact grantR_ok _ _ _ _ | exact slow_ok _ _ | exact slowR_ok _ _ | exact local_ok _ _ _ | exact localR_ok _ _ _ | exact isValid_ok _ _ | exact same_ok _ _ | exact around_ok _ _ (by omega) (by omega) | exact few60_ok _ _ | exact few80_ok _ _) ?_ ?_
      | refine VX_det rfl ?_ ?_
      | refine VX_ld1 rfl (by first | rfl | fail) ?_ (by first | fail | fail) ?_ ?_
      | refine VX_lda rfl (by first | rfl | fail) ?_ (by first | fail | fail) ?_ ?_
      | refine VX_st rfl rfl (by first | rfl | fail) ?_ (by rfl) (by first | fail | fail) ?_ ?_)
    | (show VY _ _ _ _ _ _ _; first
      | refine VY_run rfl rfl ?_ ?_
      | refine VY_nil ?_
      | (refine VY_alloc rfl ?_; intro b)
      | (refine VY_box rfl rfl ?_ ?_; rotate_left; intro b)
      | refine VY_len rfl rfl ?_ ?_
      | refine VY_lenr rfl rfl ?_ ?_
      | refine VY_iad rfl rfl rfl ?_ ?_ ?_
      | refine VY_call rfl (by first | fail | exact new_ok _ _ | exact newR_ok _ _ | exact adv_ok _ _ | exact advR_ok _ _ | exact grant_ok _ _ _ _ | exact grantR_ok _ _ _ _ | exact slow_ok _ _ | exact slowR_ok _ _ | exact local_ok _ _ _ | exact localR_ok _ _ _ | exact isValid_ok _ _ | exact same_ok _ _ | exact around_ok _ _ (by omega) (by omega) | exact few60_ok _ _ | exact few80_ok _ _) ?_ ?_
      | refine VY_callv rfl rfl (by rfl) (by first | fail | exact new_ok _ _ | exact newR_ok _ _ | exact adv_ok _ _ | exact advR_ok _ _ | exact grant_ok _ _ _ _ | exact grantR_ok _ _ _ _ | exact slow_ok _ _ | exact slowR_ok _ _ | exact local_ok _ _ _ | exact localR_ok _ _ _ | exact isValid_ok _ _ | exact same_ok _ _ | exact around_ok _ _ (by omega) (by omega) | exact few60_ok _ _ | exact few80_ok _ _) ?_ ?_
      | refine VY_det rfl ?_ ?_
      | refine VY_ld1 rfl (by first | rfl | fail) ?_ (by first | fail | fail) (by rfl) ?_ ?_
      | refine VY_lda rfl (by first | rfl | fail) ?_ (by first | fail | fail) (by rfl) ?_ ?_
      | refine VY_st rfl rfl (by first | rfl | fail) ?_ (by rfl) (by first | fail | fail) (by rfl) ?_ ?_)
    | (show List.all _ _ = true; rfl)
    | (show (_ : Nat) = _; rfl)
    | (show LoopW _ _ _ _ _; refine LoopW.intro rfl ?_)
    | (show retQ _ _ _ _ _; first | refine retQk_r rfl ?_ ?_ | refine retQk_n rfl ?_ ?_)
    | (show pureQ _ _ _ _ _ _; first | refine pureQk_r rfl ?_ ?_ | refine pureQk_n rfl ?_ ?_))
  try any_goals (intro hob;  first | (simp_all; done) | (simp only [decide_eq_true_eq, decide_eq_false_iff_not, Bool.not_true, Bool.not_false, Bool.not_eq_true', Bool.not_eq_false', Bool.and_eq_true, Bool.or_eq_true, Bool.and_eq_false_iff, Bool.or_eq_false_iff, Bool.true_and, Bool.and_true, Bool.false_or, Bool.or_false, Option.getD_some, Option.getD_none, forall_const, true_implies, ne_eq, eq_self, Int.toNat_natCast, Bool.xor_true, Bool.xor_false] at *; simp_all; done) | (simp only [decide_eq_true_eq, decide_eq_false_iff_not, Bool.not_true, Bool.not_false, Bool.not_eq_true', Bool.not_eq_false', Bool.and_eq_true, Bool.or_eq_true, Bool.and_eq_false_iff, Bool.or_eq_false_iff, Bool.true_and, Bool.and_true, Bool.false_or, Bool.or_false, Option.getD_some, Option.getD_none, forall_const, true_implies, ne_eq, eq_self, Int.toNat_natCast, Bool.xor_true, Bool.xor_false] at *; omega))
  · exact absurd hc (by decide +kernel)
  · refine Sx.Fin.intro (by repeat' (first | exact Sub.refl _ | refine Sub.same ?_ | refine Sub.cons ?_)) (congrArg (fun b => AV.v (Value.bool b)) ?_)
    decide +kernel


section
variable (a b c : Int) (l : List Lease) (n : Int)
theorem adv_ok' : Pure Try.prog 17 [.agg [.v (.int .i64 a), .v (.int .i64 b), .v (.int .i64 c), .sl false 5 (l.map Lease.cells)], .v (.int .i64 n)] (.tup [.agg (advF ⟨a, b, c, l⟩ n).1.cells, E (advF ⟨a, b, c, l⟩ n).2]) := adv_ok ⟨a, b, c, l⟩ n
theorem advR_ok' : Pure Try.prog 18 [.agg [.v (.int .i64 a), .v (.int .i64 b), .v (.int .i64 c), .sl false 5 (l.map Lease.cells)], .v (.int .i64 n)] (.tup [.agg (advF ⟨a, b, c, l⟩ n).1.cells, E (advF ⟨a, b, c, l⟩ n).2]) := advR_ok ⟨a, b, c, l⟩ n
theorem slow_ok' : Pure Try.prog 19 [.agg [.v (.int .i64 a), .v (.int .i64 b), .v (.int .i64 c), .sl false 5 (l.map Lease.cells)], .v (.int .i64 n)] (.v (.int .i64 (slowF ⟨a, b, c, l⟩ n))) := slow_ok ⟨a, b, c, l⟩ n
theorem slowR_ok' : Pure Try.prog 20 [.agg [.v (.int .i64 a), .v (.int .i64 b), .v (.int .i64 c), .sl false 5 (l.map Lease.cells)], .v (.int .i64 n)] (.v (.int .i64 (slowF ⟨a, b, c, l⟩ n))) := slowR_ok ⟨a, b, c, l⟩ n
theorem local_ok' (x : Lease) : Pure Try.prog 15 [.agg [.v (.int .i64 a), .v (.int .i64 b), .v (.int .i64 c), .sl false 5 (l.map Lease.cells)], .agg x.cells, .v (.int .i64 n)] (.agg (localF ⟨a, b, c, l⟩ x n).cells) := local_ok ⟨a, b, c, l⟩ x n
theorem localR_ok' (x : Lease) : Pure Try.prog 16 [.agg [.v (.int .i64 a), .v (.int .i64 b), .v (.int .i64 c), .sl false 5 (l.map Lease.cells)], .agg x.cells, .v (.int .i64 n)] (.agg (localF ⟨a, b, c, l⟩ x n).cells) := localR_ok ⟨a, b, c, l⟩ x n
theorem grant_ok' (r w f : Int) : Pure Try.prog 13 [.agg [.v (.int .i64 a), .v (.int .i64 b), .v (.int .i64 c), .sl false 5 (l.map Lease.cells)], .v (.int .i64 r), .v (.int .i64 w), .v (.int .i64 f)] (.tup [.agg (grantF ⟨a, b, c, l⟩ r w f).1.cells, .agg (grantF ⟨a, b, c, l⟩ r w f).2.1.cells, E (grantF ⟨a, b, c, l⟩ r w f).2.2]) := grant_ok ⟨a, b, c, l⟩ r w f
theorem grantR_ok' (r w f : Int) : Pure Try.prog 14 [.agg [.v (.int .i64 a), .v (.int .i64 b), .v (.int .i64 c), .sl false 5 (l.map Lease.cells)], .v (.int .i64 r), .v (.int .i64 w), .v (.int .i64 f)] (.tup [.agg (grantF ⟨a, b, c, l⟩ r w f).1.cells, .agg (grantF ⟨a, b, c, l⟩ r w f).2.1.cells, E (grantF ⟨a, b, c, l⟩ r w f).2.2]) := grantR_ok ⟨a, b, c, l⟩ r w f
end

theorem btrue {b : Bool} (h : b = true) : AV.v (.bool b) = AV.v (.bool true) := by rw [h]

theorem rejects_ok (s : St) (x : Lease) (n : Int) : Pure Try.prog 4 [.agg s.cells, .agg x.cells, .v (.int .i64 n)] (.v (.bool true)) := by
  refine Pure.runk (fun _ => 0) Try.func4 comp4 era4 (by simp [c4]) fun σ => ?_
  repeat' (first
    | (show OB _; first | exact OB.nil | refine OB.rfl ?_ | refine OB.tr ?_ | refine OB.grfl ?_ | refine OB.gtr ?_ | refine OB.self ?_ | refine OB.and ?_ | refine OB.cons ?_ ?_)
    | (show FK _ _ _ _ _ _ _ _; first | refine FK_seq ?_ | refine FK_blk ?_ | refine FK_fn ?_ | refine FK_nil ?_)
    | (show WK _ _ _ _ _ _ _ _; first
      | refine WK_keep rfl ?_
      | refine WK_seq ?_
      | refine WK_reg rfl ?_
      | refine WK_mreg rfl ?_
      | (fail)
      | refine WK_dreg rfl ?_
      | refine WK_block ?_
      | refine WK_ret ?_
      | refine WK_exit rfl ?_
      | refine WK_skip ?_
      | (refine WK_cond rfl ?_ ?_ <;> first | with_reducible exact skipTF | with_reducible exact skipFT | intro hc))
    | (show VX _ _ _ _ _ _ _; first
      | refine VX_run rfl rfl ?_ ?_
      | refine VX_nil ?_
      | (refine VX_alloc rfl ?_; intro b)
      | (refine VX_box rfl rfl ?_ ?_; rotate_left; intro b)
      | (refine VX_len rfl rfl ?_ ?_; rotate_left; intro hlen)
      | (refine VX_lenr rfl rfl ?_ ?_; rotate_left; intro hlen)
      | refine VX_iad rfl rfl rfl ?_ ?_ ?_
      | refine VX_slh rfl rfl rfl ?_ ?_ ?_
      | refine VX_sll rfl rfl rfl ?_ ?_ ?_
      | refine VX_slb rfl rfl rfl rfl ?_ ?_ ?_
      | (refine VX_mk0 rfl (by decide) ?_; intro b)
      | (refine VX_app0 rfl rfl ?_ ?_ ?_ (fun b u c => ?_))
      | (refine VX_app rfl rfl rfl ?_ ?_ ?_ (fun b u c => ?_))
      | refine VX_call rfl (by first | fail | exact new_ok _ _ | exact newR_ok _ _ | exact adv_ok _ _ | exact advR_ok _ _ | exact grant_ok _ _ _ _ | exact grantR_ok _ _ _ _ | exact slow_ok _ _ | exact slowR_ok _ _ | exact local_ok _ _ _ | exact localR_ok _ _ _ | exact isValid_ok _ _ | exact same_ok _ _ | exact around_ok _ _ (by omega) (by omega) | exact few60_ok _ _ | exact few80_ok _ _ | exact example_ok | exact adv_ok' _ _ _ _ _ | exact advR_ok' _ _ _ _ _ | exact slow_ok' _ _ _ _ _ | exact slowR_ok' _ _ _ _ _ | exact local_ok' _ _ _ _ _ _ | exact localR_ok' _ _ _ _ _ _ | exact grant_ok' _ _ _ _ _ _ _ | exact grantR_ok' _ _ _ _ _ _ _) ?_ ?_
      | refine VX_callv rfl rfl (by rfl) (by first | fail | exact new_ok _ _ | exact newR_ok _ _ | exact adv_ok _ _ | exact advR_ok _ _ | exact grant_ok _ _ _ _ | exact grantR_ok _ _ _ _ | exact slow_ok _ _ | exact slowR_ok _ _ | exact local_ok _ _ _ | exact localR_ok _ _ _ | exact isValid_ok _ _ | exact same_ok _ _ | exact around_ok _ _ (by omega) (by omega) | exact few60_ok _ _ | exact few80_ok _ _ | exact example_ok | exact adv_ok' _ _ _ _ _ | exact advR_ok' _ _ _ _ _ | exact slow_ok' _ _ _ _ _ | exact slowR_ok' _ _ _ _ _ | exact local_ok' _ _ _ _ _ _ | exact localR_ok' _ _ _ _ _ _ | exact grant_ok' _ _ _ _ _ _ _ | exact grantR_ok' _ _ _ _ _ _ _) ?_ ?_
      | refine VX_det rfl ?_ ?_
      | refine VX_ld1 rfl (by first | rfl | fail) ?_ (by first | fail | fail) ?_ ?_
      | refine VX_lda rfl (by first | rfl | fail) ?_ (by first | fail | fail) ?_ ?_
      | refine VX_st rfl rfl (by first | rfl | fail) ?_ (by rfl) (by first | fail | fail) ?_ ?_)
    | (show VY _ _ _ _ _ _ _; first
      | refine VY_run rfl rfl ?_ ?_
      | refine VY_nil ?_
      | (refine VY_alloc rfl ?_; intro b)
      | (refine VY_box rfl rfl ?_ ?_; rotate_left; intro b)
      | refine VY_len rfl rfl ?_ ?_
      | refine VY_lenr rfl rfl ?_ ?_
      | refine VY_iad rfl rfl rfl ?_ ?_ ?_
      | refine VY_call rfl (by first | fail | exact new_ok _ _ | exact newR_ok _ _ | exact adv_ok _ _ | exact advR_ok _ _ | exact grant_ok _ _ _ _ | exact grantR_ok _ _ _ _ | exact slow_ok _ _ | exact slowR_ok _ _ | exact local_ok _ _ _ | exact localR_ok _ _ _ | exact isValid_ok _ _ | exact same_ok _ _ | exact around_ok _ _ (by omega) (by omega) | exact few60_ok _ _ | exact few80_ok _ _ | exact example_ok | exact adv_ok' _ _ _ _ _ | exact advR_ok' _ _ _ _ _ | exact slow_ok' _ _ _ _ _ | exact slowR_ok' _ _ _ _ _ | exact local_ok' _ _ _ _ _ _ | exact localR_ok' _ _ _ _ _ _ | exact grant_ok' _ _ _ _ _ _ _ | exact grantR_ok' _ _ _ _ _ _ _) ?_ ?_
      | refine VY_callv rfl rfl (by rfl) (by first | fail | exact new_ok _ _ | exact newR_ok _ _ | exact adv_ok _ _ | exact advR_ok _ _ | exact grant_ok _ _ _ _ | exact grantR_ok _ _ _ _ | exact slow_ok _ _ | exact slowR_ok _ _ | exact local_ok _ _ _ | exact localR_ok _ _ _ | exact isValid_ok _ _ | exact same_ok _ _ | exact around_ok _ _ (by omega) (by omega) | exact few60_ok _ _ | exact few80_ok _ _ | exact example_ok | exact adv_ok' _ _ _ _ _ | exact advR_ok' _ _ _ _ _ | exact slow_ok' _ _ _ _ _ | exact slowR_ok' _ _ _ _ _ | exact local_ok' _ _ _ _ _ _ | exact localR_ok' _ _ _ _ _ _ | exact grant_ok' _ _ _ _ _ _ _ | exact grantR_ok' _ _ _ _ _ _ _) ?_ ?_
      | refine VY_det rfl ?_ ?_
      | refine VY_ld1 rfl (by first | rfl | fail) ?_ (by first | fail | fail) (by rfl) ?_ ?_
      | refine VY_lda rfl (by first | rfl | fail) ?_ (by first | fail | fail) (by rfl) ?_ ?_
      | refine VY_st rfl rfl (by first | rfl | fail) ?_ (by rfl) (by first | fail | fail) (by rfl) ?_ ?_)
    | (show List.all _ _ = true; rfl)
    | (show (_ : Nat) = _; rfl)
    | (show LoopW _ _ _ _ _; refine LoopW.intro rfl ?_)
    | (show retQ _ _ _ _ _; first | refine retQk_r rfl ?_ ?_ | refine retQk_n rfl ?_ ?_)
    | (show pureQ _ _ _ _ _ _; first | refine pureQk_r rfl ?_ ?_ | refine pureQk_n rfl ?_ ?_))
  try any_goals (intro hob;  first | (simp_all; done) | (simp only [decide_eq_true_eq, decide_eq_false_iff_not, Bool.not_true, Bool.not_false, Bool.not_eq_true', Bool.not_eq_false', Bool.and_eq_true, Bool.or_eq_true, Bool.and_eq_false_iff, Bool.or_eq_false_iff, Bool.true_and, Bool.and_true, Bool.false_or, Bool.or_false, Option.getD_some, Option.getD_none, forall_const, true_implies, ne_eq, eq_self, Int.toNat_natCast, Bool.xor_true, Bool.xor_false] at *; simp_all; done) | (simp only [decide_eq_true_eq, decide_eq_false_iff_not, Bool.not_true, Bool.not_false, Bool.not_eq_true', Bool.not_eq_false', Bool.and_eq_true, Bool.or_eq_true, Bool.and_eq_false_iff, Bool.or_eq_false_iff, Bool.true_and, Bool.and_true, Bool.false_or, Bool.or_false, Option.getD_some, Option.getD_none, forall_const, true_implies, ne_eq, eq_self, Int.toNat_natCast, Bool.xor_true, Bool.xor_false] at *; omega))
  all_goals (refine Sx.Fin.intro (by repeat' (first | exact Sub.refl _ | refine Sub.same ?_ | refine Sub.cons ?_)) (btrue ?_); simp)
end Go.Proofs.Ytcibmkacgfhnkaa
