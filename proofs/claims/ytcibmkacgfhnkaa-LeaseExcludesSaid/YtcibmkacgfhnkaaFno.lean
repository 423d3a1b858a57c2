/- The methods of the world of LeaseExcludes. -/
import Derived.Test.YtcibmkacgfhnkaaWd
set_option linter.unusedSimpArgs false
set_option linter.unusedVariables false
set_option maxRecDepth 100000
set_option maxHeartbeats 2000000
namespace Go.Proofs.Ytcibmkacgfhnkaa
open Go.Sx Go.Proofs

theorem lkt_same {σ : Store} {t b : Nat} {x y : Blk} (h : lkt σ t = some (b, x)) : lkt (upt σ t b y) t = some (b, y) := by
  rw [lkt_upt h, if_pos rfl]
theorem upt_upt : ∀ (σ : Store) (t b : Nat) (x y : Blk), upt (upt σ t b x) t b y = upt σ t b y
  | [], _, _, _, _ => rfl
  | (i, b', x') :: r, t, b, x, y => by
    cases e : Nat.beq i t with
    | true => simp only [upt, e, cond_true, Nat.beq_refl]
    | false => simp only [upt, e, cond_false, upt_upt r]

theorem upS {i : Nat} (h : i ≤ 1000) : IntKind.i64.wrap ((i : Int) + 1) = ((i + 1 : Nat) : Int) := i64w (by omega)

def Live (ck : Nat → Int) (own : Nat → Nat → Lease) (r i : Nat) : Prop := ck i < (own i r).t
/-- No range is used by two. -/
def Excl (ck : Nat → Int) (own : Nat → Nat → Lease) : Prop := ∀ r i j, r < 16 → 1 ≤ i → i ≤ 8 → 1 ≤ j → j ≤ 8 → Live ck own r i → Live ck own r j → i = j

theorem excl_ok {s : St} {ck : Nat → Int} {own : Nat → Nat → Lease} {b : Nat} {σ : Store} (hσ : lkt σ 32 = some (b, .cells (WC s ck own))) (hE : Excl ck own) :
    Sx.Spec Try.prog 25 [.lp 32 b 0] σ fun r σ' => r = .ret (.v (.bool true)) ∧ σ' = σ := by
  refine Sx.Spec.runk (fun d => bif ([1000000, 1000014, 1000017, 1000018, 1000019, 1000020, 1000022, 1000024, 1000025, 1000026] : List Nat).elem d then 1 else 0) Try.func25 comp25 era25 (by simp [c25]) ?_
  repeat' (first
    | (show OB _; first | exact OB.nil | refine OB.rfl ?_ | refine OB.tr ?_ | refine OB.grfl ?_ | refine OB.gtr ?_ | refine OB.self ?_ | refine OB.and ?_ | refine OB.cons ?_ ?_)
    | (show FK _ _ _ _ _ _ _ _; first | refine FK_seq ?_ | refine FK_blk ?_ | refine FK_fn ?_ | refine FK_nil ?_)
    | (show WK _ _ _ _ _ _ _ _; first
      | refine WK_keep rfl ?_
      | refine WK_seq ?_
      | refine WK_reg rfl ?_
      | refine WK_mreg rfl ?_
      | (fail)
      | refine WK_dreg rfl ?_
      | refine WK_block ?_
      | refine WK_ret ?_
      | refine WK_exit rfl ?_
      | refine WK_skip ?_
      | (refine WK_cond rfl ?_ ?_ <;> first | with_reducible exact skipTF | with_reducible exact skipFT | intro hc))
    | (show VX _ _ _ _ _ _ _; first
      | refine VX_run rfl rfl ?_ ?_
      | refine VX_nil ?_
      | (refine VX_alloc rfl ?_; intro b)
      | (refine VX_box rfl rfl ?_ ?_; rotate_left; intro b)
      | (refine VX_len rfl rfl ?_ ?_; rotate_left; intro hlen)
      | (refine VX_lenr rfl rfl ?_ ?_; rotate_left; intro hlen)
      | refine VX_iad rfl rfl rfl ?_ ?_ ?_
      | refine VX_slh rfl rfl rfl ?_ ?_ ?_
      | refine VX_sll rfl rfl rfl ?_ ?_ ?_
      | refine VX_slb rfl rfl rfl rfl ?_ ?_ ?_
      | (refine VX_mk0 rfl (by decide) ?_; intro b)
      | (refine VX_app0 rfl rfl ?_ ?_ ?_ (fun b u c => ?_))
      | (refine VX_app rfl rfl rfl ?_ ?_ ?_ (fun b u c => ?_))
      | refine VX_call rfl (by first | fail | exact adv_ok _ _ | exact slow_ok _ _ | exact isValid_ok _ _) ?_ ?_
      | refine VX_callv rfl rfl (by rfl) (by first | fail | exact adv_ok _ _ | exact slow_ok _ _ | exact isValid_ok _ _) ?_ ?_
      | refine VX_det rfl ?_ ?_
      | refine VX_ld1 rfl (by first | rfl | exact hσ | exact lkt_same hσ | exact lkt_same (lkt_same hσ) | fail) ?_ (by first | fail | exact WC_g | exact WC_c (by omega) | exact WC_o (by omega) (by omega) | exact WC_sg | exact WC_sc (by omega) | exact WC_so (by omega) (by omega)) ?_ ?_
      | refine VX_lda rfl (by first | rfl | exact hσ | exact lkt_same hσ | exact lkt_same (lkt_same hσ) | fail) ?_ (by first | fail | exact WC_g | exact WC_c (by omega) | exact WC_o (by omega) (by omega) | exact WC_sg | exact WC_sc (by omega) | exact WC_so (by omega) (by omega)) ?_ ?_
      | refine VX_st rfl rfl (by first | rfl | exact hσ | exact lkt_same hσ | exact lkt_same (lkt_same hσ) | fail) ?_ (by rfl) (by first | fail | exact WC_g | exact WC_c (by omega) | exact WC_o (by omega) (by omega) | exact WC_sg | exact WC_sc (by omega) | exact WC_so (by omega) (by omega)) ?_ ?_)
    | (show VY _ _ _ _ _ _ _; first
      | refine VY_run rfl rfl ?_ ?_
      | refine VY_nil ?_
      | (refine VY_alloc rfl ?_; intro b)
      | (refine VY_box rfl rfl ?_ ?_; rotate_left; intro b)
      | refine VY_len rfl rfl ?_ ?_
      | refine VY_lenr rfl rfl ?_ ?_
      | refine VY_iad rfl rfl rfl ?_ ?_ ?_
      | refine VY_call rfl (by first | fail | exact adv_ok _ _ | exact slow_ok _ _ | exact isValid_ok _ _) ?_ ?_
      | refine VY_callv rfl rfl (by rfl) (by first | fail | exact adv_ok _ _ | exact slow_ok _ _ | exact isValid_ok _ _) ?_ ?_
      | refine VY_det rfl ?_ ?_
      | refine VY_ld1 rfl (by first | rfl | exact hσ | exact lkt_same hσ | exact lkt_same (lkt_same hσ) | fail) ?_ (by first | fail | exact WC_g | exact WC_c (by omega) | exact WC_o (by omega) (by omega) | exact WC_sg | exact WC_sc (by omega) | exact WC_so (by omega) (by omega)) (by rfl) ?_ ?_
      | refine VY_lda rfl (by first | rfl | exact hσ | exact lkt_same hσ | exact lkt_same (lkt_same hσ) | fail) ?_ (by first | fail | exact WC_g | exact WC_c (by omega) | exact WC_o (by omega) (by omega) | exact WC_sg | exact WC_sc (by omega) | exact WC_so (by omega) (by omega)) (by rfl) ?_ ?_
      | refine VY_st rfl rfl (by first | rfl | exact hσ | exact lkt_same hσ | exact lkt_same (lkt_same hσ) | fail) ?_ (by rfl) (by first | fail | exact WC_g | exact WC_c (by omega) | exact WC_o (by omega) (by omega) | exact WC_sg | exact WC_sc (by omega) | exact WC_so (by omega) (by omega)) (by rfl) ?_ ?_)
    | (show List.all _ _ = true; rfl)
    | (show (_ : Nat) = _; rfl)
    | (show LoopW _ _ _ _ _; refine LoopW.intro rfl ?_)
    | (show retQ _ _ _ _ _; first | refine retQk_r rfl ?_ ?_ | refine retQk_n rfl ?_ ?_)
    | (show pureQ _ _ _ _ _ _; first | refine pureQk_r rfl ?_ ?_ | refine pureQk_n rfl ?_ ?_))
  refine WK_loop (fun n rg σ' => ∃ r : Nat, r ≤ 16 ∧ n = 16 - r ∧ σ = σ' ∧ rg = [(0, .lp 32 b 0), (3, .v (.int .i64 r))]) 16 rfl ⟨_, _, by repeat' (first | exact WkRL.refl _ | refine WkRL.cons ?_ ?_ | exact Wk.refl _ | exact WkL.nil | refine WkL.cons ?_ ?_ | refine Wk.tup ?_ | refine Wk.agg ?_ | exact Wk.nil | exact Wk.sl | exact Wk.own _ | exact Wk.tag), by repeat' (first | exact Sub.refl _ | refine Sub.same ?_ | refine Sub.cons ?_), 0, by omega, rfl, by rfl, by rfl⟩ ?_
  rintro n _ _ ⟨r, hr, hn, rfl, rfl⟩
  repeat' (first
    | (show OB _; first | exact OB.nil | refine OB.rfl ?_ | refine OB.tr ?_ | refine OB.grfl ?_ | refine OB.gtr ?_ | refine OB.self ?_ | refine OB.and ?_ | refine OB.cons ?_ ?_)
    | (show FK _ _ _ _ _ _ _ _; first | refine FK_seq ?_ | refine FK_blk ?_ | refine FK_fn ?_ | refine FK_nil ?_)
    | (show WK _ _ _ _ _ _ _ _; first
      | refine WK_keep rfl ?_
      | refine WK_seq ?_
      | refine WK_reg rfl ?_
      | refine WK_mreg rfl ?_
      | (fail)
      | refine WK_dreg rfl ?_
      | refine WK_block ?_
      | refine WK_ret ?_
      | refine WK_exit rfl ?_
      | refine WK_skip ?_
      | (refine WK_cond rfl ?_ ?_ <;> first | with_reducible exact skipTF | with_reducible exact skipFT | intro hc))
    | (show VX _ _ _ _ _ _ _; first
      | refine VX_run rfl rfl ?_ ?_
      | refine VX_nil ?_
      | (refine VX_alloc rfl ?_; intro b)
      | (refine VX_box rfl rfl ?_ ?_; rotate_left; intro b)
      | (refine VX_len rfl rfl ?_ ?_; rotate_left; intro hlen)
      | (refine VX_lenr rfl rfl ?_ ?_; rotate_left; intro hlen)
      | refine VX_iad rfl rfl rfl ?_ ?_ ?_
      | refine VX_slh rfl rfl rfl ?_ ?_ ?_
      | refine VX_sll rfl rfl rfl ?_ ?_ ?_
      | refine VX_slb rfl rfl rfl rfl ?_ ?_ ?_
      | (refine VX_mk0 rfl (by decide) ?_; intro b)
      | (refine VX_app0 rfl rfl ?_ ?_ ?_ (fun b u c => ?_))
      | (refine VX_app rfl rfl rfl ?_ ?_ ?_ (fun b u c => ?_))
      | refine VX_call rfl (by first | fail | exact adv_ok _ _ | exact slow_ok _ _ | exact isValid_ok _ _) ?_ ?_
      | refine VX_callv rfl rfl (by rfl) (by first | fail | exact adv_ok _ _ | exact slow_ok _ _ | exact isValid_ok _ _) ?_ ?_
      | refine VX_det rfl ?_ ?_
      | refine VX_ld1 rfl (by first | rfl | exact hσ | exact lkt_same hσ | exact lkt_same (lkt_same hσ) | fail) ?_ (by first | fail | exact WC_g | exact WC_c (by omega) | exact WC_o (by omega) (by omega) | exact WC_sg | exact WC_sc (by omega) | exact WC_so (by omega) (by omega)) ?_ ?_
      | refine VX_lda rfl (by first | rfl | exact hσ | exact lkt_same hσ | exact lkt_same (lkt_same hσ) | fail) ?_ (by first | fail | exact WC_g | exact WC_c (by omega) | exact WC_o (by omega) (by omega) | exact WC_sg | exact WC_sc (by omega) | exact WC_so (by omega) (by omega)) ?_ ?_
      | refine VX_st rfl rfl (by first | rfl | exact hσ | exact lkt_same hσ | exact lkt_same (lkt_same hσ) | fail) ?_ (by rfl) (by first | fail | exact WC_g | exact WC_c (by omega) | exact WC_o (by omega) (by omega) | exact WC_sg | exact WC_sc (by omega) | exact WC_so (by omega) (by omega)) ?_ ?_)
    | (show VY _ _ _ _ _ _ _; first
      | refine VY_run rfl rfl ?_ ?_
      | refine VY_nil ?_
      | (refine VY_alloc rfl ?_; intro b)
      | (refine VY_box rfl rfl ?_ ?_; rotate_left; intro b)
      | refine VY_len rfl rfl ?_ ?_
      | refine VY_lenr rfl rfl ?_ ?_
      | refine VY_iad rfl rfl rfl ?_ ?_ ?_
      | refine VY_call rfl (by first | fail | exact adv_ok _ _ | exact slow_ok _ _ | exact isValid_ok _ _) ?_ ?_
      | refine VY_callv rfl rfl (by rfl) (by first | fail | exact adv_ok _ _ | exact slow_ok _ _ | exact isValid_ok _ _) ?_ ?_
      | refine VY_det rfl ?_ ?_
      | refine VY_ld1 rfl (by first | rfl | exact hσ | exact lkt_same hσ | exact lkt_same (lkt_same hσ) | fail) ?_ (by first | fail | exact WC_g | exact WC_c (by omega) | exact WC_o (by omega) (by omega) | exact WC_sg | exact WC_sc (by omega) | exact WC_so (by omega) (by omega)) (by rfl) ?_ ?_
      | refine VY_lda rfl (by first | rfl | exact hσ | exact lkt_same hσ | exact lkt_same (lkt_same hσ) | fail) ?_ (by first | fail | exact WC_g | exact WC_c (by omega) | exact WC_o (by omega) (by omega) | exact WC_sg | exact WC_sc (by omega) | exact WC_so (by omega) (by omega)) (by rfl) ?_ ?_
      | refine VY_st rfl rfl (by first | rfl | exact hσ | exact lkt_same hσ | exact lkt_same (lkt_same hσ) | fail) ?_ (by rfl) (by first | fail | exact WC_g | exact WC_c (by omega) | exact WC_o (by omega) (by omega) | exact WC_sg | exact WC_sc (by omega) | exact WC_so (by omega) (by omega)) (by rfl) ?_ ?_)
    | (show List.all _ _ = true; rfl)
    | (show (_ : Nat) = _; rfl)
    | (show LoopW _ _ _ _ _; refine LoopW.intro rfl ?_)
    | (show retQ _ _ _ _ _; first | refine retQk_r rfl ?_ ?_ | refine retQk_n rfl ?_ ?_)
    | (show pureQ _ _ _ _ _ _; first | refine pureQk_r rfl ?_ ?_ | refine pureQk_n rfl ?_ ?_))
  try any_goals (intro hob;  first | (simp_all; done) | (simp only [decide_eq_true_eq, decide_eq_false_iff_not, Bool.not_true, Bool.not_false, Bool.not_eq_true', Bool.not_eq_false', Bool.and_eq_true, Bool.or_eq_true, Bool.and_eq_false_iff, Bool.or_eq_false_iff, Bool.true_and, Bool.and_true, Bool.false_or, Bool.or_false, Option.getD_some, Option.getD_none, forall_const, true_implies, ne_eq, eq_self, Int.toNat_natCast, Bool.xor_true, Bool.xor_false] at *; simp_all; done) | (simp only [decide_eq_true_eq, decide_eq_false_iff_not, Bool.not_true, Bool.not_false, Bool.not_eq_true', Bool.not_eq_false', Bool.and_eq_true, Bool.or_eq_true, Bool.and_eq_false_iff, Bool.or_eq_false_iff, Bool.true_and, Bool.and_true, Bool.false_or, Bool.or_false, Option.getD_some, Option.getD_none, forall_const, true_implies, ne_eq, eq_self, Int.toNat_natCast, Bool.xor_true, Bool.xor_false] at *; omega))
  · have hr16 : (r : Int) < 16 := by simpa using hc
    refine WK_loop (fun n rg σ' => ∃ i : Nat, 1 ≤ i ∧ i ≤ 9 ∧ n = 9 - i ∧ ∃ m : Nat, ((m = 0 ∧ ∀ j, 1 ≤ j → j < i → ¬ Live ck own r j) ∨ (m = 1 ∧ ∃ j, 1 ≤ j ∧ j < i ∧ Live ck own r j)) ∧ σ = σ' ∧ rg = [(0, .lp 32 b 0), (3, .v (.int .i64 r)), (4, .v (.int .i64 m)), (5, .v (.int .i64 i))]) 8 rfl ⟨_, _, by repeat' (first | exact WkRL.refl _ | refine WkRL.cons ?_ ?_ | exact Wk.refl _ | exact WkL.nil | refine WkL.cons ?_ ?_ | refine Wk.tup ?_ | refine Wk.agg ?_ | exact Wk.nil | exact Wk.sl | exact Wk.own _ | exact Wk.tag), by repeat' (first | exact Sub.refl _ | refine Sub.same ?_ | refine Sub.cons ?_), 1, by omega, by omega, rfl, 0, .inl ⟨rfl, fun j h1 h2 => by omega⟩, by rfl, by rfl⟩ ?_
    rintro n2 _ _ ⟨i, hi1, hi9, hn2, m, hm, rfl, rfl⟩
    by_cases hi : i ≤ 8
    · repeat' (first
    | (show OB _; first | exact OB.nil | refine OB.rfl ?_ | refine OB.tr ?_ | refine OB.grfl ?_ | refine OB.gtr ?_ | refine OB.self ?_ | refine OB.and ?_ | refine OB.cons ?_ ?_)
    | (show FK _ _ _ _ _ _ _ _; first | refine FK_seq ?_ | refine FK_blk ?_ | refine FK_fn ?_ | refine FK_nil ?_)
    | (show WK _ _ _ _ _ _ _ _; first
      | refine WK_keep rfl ?_
      | refine WK_seq ?_
      | refine WK_reg rfl ?_
      | refine WK_mreg rfl ?_
      | (fail)
      | refine WK_dreg rfl ?_
      | refine WK_block ?_
      | refine WK_ret ?_
      | refine WK_exit rfl ?_
      | refine WK_skip ?_
      | (refine WK_cond rfl ?_ ?_ <;> first | with_reducible exact skipTF | with_reducible exact skipFT | intro hc))
    | (show VX _ _ _ _ _ _ _; first
      | refine VX_run rfl rfl ?_ ?_
      | refine VX_nil ?_
      | (refine VX_alloc rfl ?_; intro b)
      | (refine VX_box rfl rfl ?_ ?_; rotate_left; intro b)
      | (refine VX_len rfl rfl ?_ ?_; rotate_left; intro hlen)
      | (refine VX_lenr rfl rfl ?_ ?_; rotate_left; intro hlen)
      | refine VX_iad rfl rfl rfl ?_ ?_ ?_
      | refine VX_slh rfl rfl rfl ?_ ?_ ?_
      | refine VX_sll rfl rfl rfl ?_ ?_ ?_
      | refine VX_slb rfl rfl rfl rfl ?_ ?_ ?_
      | (refine VX_mk0 rfl (by decide) ?_; intro b)
      | (refine VX_app0 rfl rfl ?_ ?_ ?_ (fun b u c => ?_))
      | (refine VX_app rfl rfl rfl ?_ ?_ ?_ (fun b u c => ?_))
      | refine VX_call rfl (by first | fail | exact adv_ok _ _ | exact slow_ok _ _ | exact isValid_ok _ _) ?_ ?_
      | refine VX_callv rfl rfl (by rfl) (by first | fail | exact adv_ok _ _ | exact slow_ok _ _ | exact isValid_ok _ _) ?_ ?_
      | refine VX_det rfl ?_ ?_
      | refine VX_ld1 rfl (by first | rfl | exact hσ | exact lkt_same hσ | exact lkt_same (lkt_same hσ) | fail) ?_ (by first | fail | exact WC_g | exact WC_c (by omega) | exact WC_o (by omega) (by omega) | exact WC_sg | exact WC_sc (by omega) | exact WC_so (by omega) (by omega)) ?_ ?_
      | refine VX_lda rfl (by first | rfl | exact hσ | exact lkt_same hσ | exact lkt_same (lkt_same hσ) | fail) ?_ (by first | fail | exact WC_g | exact WC_c (by omega) | exact WC_o (by omega) (by omega) | exact WC_sg | exact WC_sc (by omega) | exact WC_so (by omega) (by omega)) ?_ ?_
      | refine VX_st rfl rfl (by first | rfl | exact hσ | exact lkt_same hσ | exact lkt_same (lkt_same hσ) | fail) ?_ (by rfl) (by first | fail | exact WC_g | exact WC_c (by omega) | exact WC_o (by omega) (by omega) | exact WC_sg | exact WC_sc (by omega) | exact WC_so (by omega) (by omega)) ?_ ?_)
    | (show VY _ _ _ _ _ _ _; first
      | refine VY_run rfl rfl ?_ ?_
      | refine VY_nil ?_
      | (refine VY_alloc rfl ?_; intro b)
      | (refine VY_box rfl rfl ?_ ?_; rotate_left; intro b)
      | refine VY_len rfl rfl ?_ ?_
      | refine VY_lenr rfl rfl ?_ ?_
      | refine VY_iad rfl rfl rfl ?_ ?_ ?_
      | refine VY_call rfl (by first | fail | exact adv_ok _ _ | exact slow_ok _ _ | exact isValid_ok _ _) ?_ ?_
      | refine VY_callv rfl rfl (by rfl) (by first | fail | exact adv_ok _ _ | exact slow_ok _ _ | exact isValid_ok _ _) ?_ ?_
      | refine VY_det rfl ?_ ?_
      | refine VY_ld1 rfl (by first | rfl | exact hσ | exact lkt_same hσ | exact lkt_same (lkt_same hσ) | fail) ?_ (by first | fail | exact WC_g | exact WC_c (by omega) | exact WC_o (by omega) (by omega) | exact WC_sg | exact WC_sc (by omega) | exact WC_so (by omega) (by omega)) (by rfl) ?_ ?_
      | refine VY_lda rfl (by first | rfl | exact hσ | exact lkt_same hσ | exact lkt_same (lkt_same hσ) | fail) ?_ (by first | fail | exact WC_g | exact WC_c (by omega) | exact WC_o (by omega) (by omega) | exact WC_sg | exact WC_sc (by omega) | exact WC_so (by omega) (by omega)) (by rfl) ?_ ?_
      | refine VY_st rfl rfl (by first | rfl | exact hσ | exact lkt_same hσ | exact lkt_same (lkt_same hσ) | fail) ?_ (by rfl) (by first | fail | exact WC_g | exact WC_c (by omega) | exact WC_o (by omega) (by omega) | exact WC_sg | exact WC_sc (by omega) | exact WC_so (by omega) (by omega)) (by rfl) ?_ ?_)
    | (show List.all _ _ = true; rfl)
    | (show (_ : Nat) = _; rfl)
    | (show LoopW _ _ _ _ _; refine LoopW.intro rfl ?_)
    | (show retQ _ _ _ _ _; first | refine retQk_r rfl ?_ ?_ | refine retQk_n rfl ?_ ?_)
    | (show pureQ _ _ _ _ _ _; first | refine pureQk_r rfl ?_ ?_ | refine pureQk_n rfl ?_ ?_))
      try any_goals (intro hob;  first | (simp_all; done) | (simp only [decide_eq_true_eq, decide_eq_false_iff_not, Bool.not_true, Bool.not_false, Bool.not_eq_true', Bool.not_eq_false', Bool.and_eq_true, Bool.or_eq_true, Bool.and_eq_false_iff, Bool.or_eq_false_iff, Bool.true_and, Bool.and_true, Bool.false_or, Bool.or_false, Option.getD_some, Option.getD_none, forall_const, true_implies, ne_eq, eq_self, Int.toNat_natCast, Bool.xor_true, Bool.xor_false] at *; simp_all; done) | (simp only [decide_eq_true_eq, decide_eq_false_iff_not, Bool.not_true, Bool.not_false, Bool.not_eq_true', Bool.not_eq_false', Bool.and_eq_true, Bool.or_eq_true, Bool.and_eq_false_iff, Bool.or_eq_false_iff, Bool.true_and, Bool.and_true, Bool.false_or, Bool.or_false, Option.getD_some, Option.getD_none, forall_const, true_implies, ne_eq, eq_self, Int.toNat_natCast, Bool.xor_true, Bool.xor_false] at *; omega))
      all_goals (try simp only [Int.toNat_natCast] at hc)
      any_goals omega
      · have hl : Live ck own r i := by simpa [Live] using hc
        rcases hm with ⟨rfl, h⟩ | ⟨rfl, j, h1, h2, h3⟩
        · exact ⟨9 - (i + 1), by omega, [(0, .lp 32 b 0), (3, .v (.int .i64 r)), (4, .v (.int .i64 ((0 + 1 : Nat) : Int))), (5, .v (.int .i64 ((i + 1 : Nat) : Int)))], _, (by rw [upS (by omega), upS (by omega)]; repeat' (first | exact WkRL.refl _ | refine WkRL.cons ?_ ?_ | exact Wk.refl _ | exact WkL.nil | refine WkL.cons ?_ ?_ | refine Wk.tup ?_ | refine Wk.agg ?_ | exact Wk.nil | exact Wk.sl | exact Wk.own _ | exact Wk.tag)), (by repeat' (first | exact Sub.refl _ | refine Sub.same ?_ | refine Sub.cons ?_)), i + 1, by omega, by omega, rfl, 1, .inr ⟨rfl, i, hi1, by omega, hl⟩, rfl, rfl⟩
        · have := hE r j i (by omega) h1 (by omega) hi1 hi h3 hl; omega
      · have hl : ¬ Live ck own r i := by simpa [Live] using hc
        refine ⟨9 - (i + 1), by omega, [(0, .lp 32 b 0), (3, .v (.int .i64 r)), (4, .v (.int .i64 m)), (5, .v (.int .i64 ((i + 1 : Nat) : Int)))], _, (by rw [upS (by omega)]; repeat' (first | exact WkRL.refl _ | refine WkRL.cons ?_ ?_ | exact Wk.refl _ | exact WkL.nil | refine WkL.cons ?_ ?_ | refine Wk.tup ?_ | refine Wk.agg ?_ | exact Wk.nil | exact Wk.sl | exact Wk.own _ | exact Wk.tag)), (by repeat' (first | exact Sub.refl _ | refine Sub.same ?_ | refine Sub.cons ?_)), i + 1, by omega, by omega, rfl, m, ?_, rfl, rfl⟩
        rcases hm with ⟨rfl, h⟩ | ⟨rfl, j, h1, h2, h3⟩
        · refine .inl ⟨rfl, fun j h1 h2 => ?_⟩
          rcases Nat.lt_or_ge j i with h4 | h4
          · exact h j h1 h4
          · obtain rfl : j = i := by omega
            exact hl
        · exact .inr ⟨rfl, j, h1, by omega, h3⟩
      all_goals (exfalso; rename_i h8; simp at h8; omega)
    · obtain rfl : i = 9 := by omega
      clear hi
      repeat' (first
    | (show OB _; first | exact OB.nil | refine OB.rfl ?_ | refine OB.tr ?_ | refine OB.grfl ?_ | refine OB.gtr ?_ | refine OB.self ?_ | refine OB.and ?_ | refine OB.cons ?_ ?_)
    | (show FK _ _ _ _ _ _ _ _; first | refine FK_seq ?_ | refine FK_blk ?_ | refine FK_fn ?_ | refine FK_nil ?_)
    | (show WK _ _ _ _ _ _ _ _; first
      | refine WK_keep rfl ?_
      | refine WK_seq ?_
      | refine WK_reg rfl ?_
      | refine WK_mreg rfl ?_
      | (fail)
      | refine WK_dreg rfl ?_
      | refine WK_block ?_
      | refine WK_ret ?_
      | refine WK_exit rfl ?_
      | refine WK_skip ?_
      | (refine WK_cond rfl ?_ ?_ <;> first | with_reducible exact skipTF | with_reducible exact skipFT | intro hc))
    | (show VX _ _ _ _ _ _ _; first
      | refine VX_run rfl rfl ?_ ?_
      | refine VX_nil ?_
      | (refine VX_alloc rfl ?_; intro b)
      | (refine VX_box rfl rfl ?_ ?_; rotate_left; intro b)
      | (refine VX_len rfl rfl ?_ ?_; rotate_left; intro hlen)
      | (refine VX_lenr rfl rfl ?_ ?_; rotate_left; intro hlen)
      | refine VX_iad rfl rfl rfl ?_ ?_ ?_
      | refine VX_slh rfl rfl rfl ?_ ?_ ?_
      | refine VX_sll rfl rfl rfl ?_ ?_ ?_
      | refine VX_slb rfl rfl rfl rfl ?_ ?_ ?_
      | (refine VX_mk0 rfl (by decide) ?_; intro b)
      | (refine VX_app0 rfl rfl ?_ ?_ ?_ (fun b u c => ?_))
      | (refine VX_app rfl rfl rfl ?_ ?_ ?_ (fun b u c => ?_))
      | refine VX_call rfl (by first | fail | exact adv_ok _ _ | exact slow_ok _ _ | exact isValid_ok _ _) ?_ ?_
      | refine VX_callv rfl rfl (by rfl) (by first | fail | exact adv_ok _ _ | exact slow_ok _ _ | exact isValid_ok _ _) ?_ ?_
      | refine VX_det rfl ?_ ?_
      | refine VX_ld1 rfl (by first | rfl | exact hσ | exact lkt_same hσ | exact lkt_same (lkt_same hσ) | fail) ?_ (by first | fail | exact WC_g | exact WC_c (by omega) | exact WC_o (by omega) (by omega) | exact WC_sg | exact WC_sc (by omega) | exact WC_so (by omega) (by omega)) ?_ ?_
      | refine VX_lda rfl (by first | rfl | exact hσ | exact lkt_same hσ | exact lkt_same (lkt_same hσ) | fail) ?_ (by first | fail | exact WC_g | exact WC_c (by omega) | exact WC_o (by omega) (by omega) | exact WC_sg | exact WC_sc (by omega) | exact WC_so (by omega) (by omega)) ?_ ?_
      | refine VX_st rfl rfl (by first | rfl | exact hσ | exact lkt_same hσ | exact lkt_same (lkt_same hσ) | fail) ?_ (by rfl) (by first | fail | exact WC_g | exact WC_c (by omega) | exact WC_o (by omega) (by omega) | exact WC_sg | exact WC_sc (by omega) | exact WC_so (by omega) (by omega)) ?_ ?_)
    | (show VY _ _ _ _ _ _ _; first
      | refine VY_run rfl rfl ?_ ?_
      | refine VY_nil ?_
      | (refine VY_alloc rfl ?_; intro b)
      | (refine VY_box rfl rfl ?_ ?_; rotate_left; intro b)
      | refine VY_len rfl rfl ?_ ?_
      | refine VY_lenr rfl rfl ?_ ?_
      | refine VY_iad rfl rfl rfl ?_ ?_ ?_
      | refine VY_call rfl (by first | fail | exact adv_ok _ _ | exact slow_ok _ _ | exact isValid_ok _ _) ?_ ?_
      | refine VY_callv rfl rfl (by rfl) (by first | fail | exact adv_ok _ _ | exact slow_ok _ _ | exact isValid_ok _ _) ?_ ?_
      | refine VY_det rfl ?_ ?_
      | refine VY_ld1 rfl (by first | rfl | exact hσ | exact lkt_same hσ | exact lkt_same (lkt_same hσ) | fail) ?_ (by first | fail | exact WC_g | exact WC_c (by omega) | exact WC_o (by omega) (by omega) | exact WC_sg | exact WC_sc (by omega) | exact WC_so (by omega) (by omega)) (by rfl) ?_ ?_
      | refine VY_lda rfl (by first | rfl | exact hσ | exact lkt_same hσ | exact lkt_same (lkt_same hσ) | fail) ?_ (by first | fail | exact WC_g | exact WC_c (by omega) | exact WC_o (by omega) (by omega) | exact WC_sg | exact WC_sc (by omega) | exact WC_so (by omega) (by omega)) (by rfl) ?_ ?_
      | refine VY_st rfl rfl (by first | rfl | exact hσ | exact lkt_same hσ | exact lkt_same (lkt_same hσ) | fail) ?_ (by rfl) (by first | fail | exact WC_g | exact WC_c (by omega) | exact WC_o (by omega) (by omega) | exact WC_sg | exact WC_sc (by omega) | exact WC_so (by omega) (by omega)) (by rfl) ?_ ?_)
    | (show List.all _ _ = true; rfl)
    | (show (_ : Nat) = _; rfl)
    | (show LoopW _ _ _ _ _; refine LoopW.intro rfl ?_)
    | (show retQ _ _ _ _ _; first | refine retQk_r rfl ?_ ?_ | refine retQk_n rfl ?_ ?_)
    | (show pureQ _ _ _ _ _ _; first | refine pureQk_r rfl ?_ ?_ | refine pureQk_n rfl ?_ ?_))
      try any_goals (intro hob;  first | (simp_all; done) | (simp only [decide_eq_true_eq, decide_eq_false_iff_not, Bool.not_true, Bool.not_false, Bool.not_eq_true', Bool.not_eq_false', Bool.and_eq_true, Bool.or_eq_true, Bool.and_eq_false_iff, Bool.or_eq_false_iff, Bool.true_and, Bool.and_true, Bool.false_or, Bool.or_false, Option.getD_some, Option.getD_none, forall_const, true_implies, ne_eq, eq_self, Int.toNat_natCast, Bool.xor_true, Bool.xor_false] at *; simp_all; done) | (simp only [decide_eq_true_eq, decide_eq_false_iff_not, Bool.not_true, Bool.not_false, Bool.not_eq_true', Bool.not_eq_false', Bool.and_eq_true, Bool.or_eq_true, Bool.and_eq_false_iff, Bool.or_eq_false_iff, Bool.true_and, Bool.and_true, Bool.false_or, Bool.or_false, Option.getD_some, Option.getD_none, forall_const, true_implies, ne_eq, eq_self, Int.toNat_natCast, Bool.xor_true, Bool.xor_false] at *; omega))
      any_goals (exfalso; simp at hc; done)
      · exfalso
        have : (1 : Int) < m := by simpa using hc
        rcases hm with ⟨rfl, _⟩ | ⟨rfl, _⟩ <;> omega
      · exact ⟨16 - (r + 1), by omega, [(0, .lp 32 b 0), (3, .v (.int .i64 ((r + 1 : Nat) : Int)))], _, (by rw [upS (by omega)]; repeat' (first | exact WkRL.refl _ | refine WkRL.cons ?_ ?_ | exact Wk.refl _ | exact WkL.nil | refine WkL.cons ?_ ?_ | refine Wk.tup ?_ | refine Wk.agg ?_ | exact Wk.nil | exact Wk.sl | exact Wk.own _ | exact Wk.tag)), (by repeat' (first | exact Sub.refl _ | refine Sub.same ?_ | refine Sub.cons ?_)), r + 1, by omega, rfl, rfl, rfl⟩
  · exact ⟨rfl, rfl⟩

/-- The clocks when those below i have gone on. -/
def ckA (ck : Nat → Int) (m w j : Int) (i : Nat) : Nat → Int := fun k => if k < i then ck k + m + (if (k : Int) = w then j else 0) else ck k
theorem ckA_zero (ck : Nat → Int) (m w j : Int) : ckA ck m w j 0 = ck := by funext k; simp [ckA]
theorem ckA_at (ck : Nat → Int) (m w j : Int) (i : Nat) : ckA ck m w j i i = ck i := by simp [ckA]
theorem ckA_step (ck : Nat → Int) (m w j : Int) (i : Nat) {x : Int} (hx : x = ck i + m + (if (i : Int) = w then j else 0)) : updC (ckA ck m w j i) i x = ckA ck m w j (i + 1) := by
  funext k
  unfold updC ckA
  by_cases e : k = i
  · subst e; simp [hx]
  · rw [if_neg e]
    by_cases h : k < i
    · simp only [h, show k < i + 1 from by omega, if_true]
    · simp only [h, show ¬ k < i + 1 from by omega, if_false]
theorem updC_updC (ck : Nat → Int) (i : Nat) (a b : Int) : updC (updC ck i a) i b = updC ck i b := by
  funext k; unfold updC; by_cases e : k = i <;> simp [e]
theorem updC_at (ck : Nat → Int) (i : Nat) (a : Int) : updC ck i a i = a := by simp [updC]

theorem wadv_ok {s : St} {ck : Nat → Int} {own : Nat → Nat → Lease} {bw : Nat} {σ : Store} {n w j : Int} (hσ : lkt σ 32 = some (bw, .cells (WC s ck own))) (hv : s.Valid) (hn0 : 0 ≤ n) (hn1 : n ≤ 39) (hnow : s.now ≤ 1000000)
    (hck : ∀ i, i < 9 → 0 ≤ ck i ∧ ck i ≤ 1000000) (hj : 0 ≤ j ∧ j ≤ 100) :
    Sx.Spec Try.prog 24 [.lp 32 bw 0, .v (.int .i64 n), .v (.int .i64 w), .v (.int .i64 j)] σ fun r σ' => r = .ret (.v (.bool true)) ∧ σ' = upt σ 32 bw (.cells (WC { s with now := s.now + n } (ckA ck (slowF s n) w j 9) own)) := by
  have hAdv := advF_of (n := n) hv hn0 (by omega)
  have hsl := slowF_bd hv hn0
  refine Sx.Spec.weak (Q := fun r σ' => r = .ret (.v (.bool true)) ∧ Sub (upt σ 32 bw (.cells (WC { s with now := s.now + n } (ckA ck (slowF s n) w j 9) own))) σ') ?_ (fun r σ' h => ⟨.ret _, _, ⟨rfl, rfl⟩, h.2, by rw [h.1]; exact Wk.refl _⟩)
  refine Sx.Spec.runk (fun d => bif ([1000000, 1000013, 1000014, 1000015, 1000020, 1000021, 1000022, 1000030, 1000032, 1000033, 1000038, 1000040, 1000042, 1000043, 1000044, 1000048, 1000049, 1000050, 1000054, 1000056, 1000058, 1000059, 1000060, 1000064, 1000065, 1000066] : List Nat).elem d then 1 else 0) Try.func24 comp24 era24 (by simp [c24]) ?_
  repeat' (first
    | (show OB _; first | exact OB.nil | refine OB.rfl ?_ | refine OB.tr ?_ | refine OB.grfl ?_ | refine OB.gtr ?_ | refine OB.self ?_ | refine OB.and ?_ | refine OB.cons ?_ ?_)
    | (show FK _ _ _ _ _ _ _ _; first | refine FK_seq ?_ | refine FK_blk ?_ | refine FK_fn ?_ | refine FK_nil ?_)
    | (show WK _ _ _ _ _ _ _ _; first
      | refine WK_keep rfl ?_
      | refine WK_seq ?_
      | refine WK_reg rfl ?_
      | refine WK_mreg rfl ?_
      | (fail)
      | refine WK_dreg rfl ?_
      | refine WK_block ?_
      | refine WK_ret ?_
      | refine WK_exit rfl ?_
      | refine WK_skip ?_
      | (refine WK_cond rfl ?_ ?_ <;> first | with_reducible exact skipTF | with_reducible exact skipFT | intro hc))
    | (show VX _ _ _ _ _ _ _; first
      | refine VX_run rfl rfl ?_ ?_
      | refine VX_nil ?_
      | (refine VX_alloc rfl ?_; intro b)
      | (refine VX_box rfl rfl ?_ ?_; rotate_left; intro b)
      | (refine VX_len rfl rfl ?_ ?_; rotate_left; intro hlen)
      | (refine VX_lenr rfl rfl ?_ ?_; rotate_left; intro hlen)
      | refine VX_iad rfl rfl rfl ?_ ?_ ?_
      | refine VX_slh rfl rfl rfl ?_ ?_ ?_
      | refine VX_sll rfl rfl rfl ?_ ?_ ?_
      | refine VX_slb rfl rfl rfl rfl ?_ ?_ ?_
      | (refine VX_mk0 rfl (by decide) ?_; intro b)
      | (refine VX_app0 rfl rfl ?_ ?_ ?_ (fun b u c => ?_))
      | (refine VX_app rfl rfl rfl ?_ ?_ ?_ (fun b u c => ?_))
      | refine VX_call rfl (by first | fail | exact adv_ok _ _ | exact slow_ok _ _ | exact isValid_ok _ _) ?_ ?_
      | refine VX_callv rfl rfl (by rfl) (by first | fail | exact adv_ok _ _ | exact slow_ok _ _ | exact isValid_ok _ _) ?_ ?_
      | refine VX_det rfl ?_ ?_
      | refine VX_ld1 rfl (by first | rfl | exact hσ | exact lkt_same hσ | exact lkt_same (lkt_same hσ) | fail) ?_ (by first | fail | exact WC_g | exact WC_c (by omega) | exact WC_o (by omega) (by omega) | exact WC_sg | exact WC_sc (by omega) | exact WC_so (by omega) (by omega)) ?_ ?_
      | refine VX_lda rfl (by first | rfl | exact hσ | exact lkt_same hσ | exact lkt_same (lkt_same hσ) | fail) ?_ (by first | fail | exact WC_g | exact WC_c (by omega) | exact WC_o (by omega) (by omega) | exact WC_sg | exact WC_sc (by omega) | exact WC_so (by omega) (by omega)) ?_ ?_
      | refine VX_st rfl rfl (by first | rfl | exact hσ | exact lkt_same hσ | exact lkt_same (lkt_same hσ) | fail) ?_ (by rfl) (by first | fail | exact WC_g | exact WC_c (by omega) | exact WC_o (by omega) (by omega) | exact WC_sg | exact WC_sc (by omega) | exact WC_so (by omega) (by omega)) ?_ ?_)
    | (show VY _ _ _ _ _ _ _; first
      | refine VY_run rfl rfl ?_ ?_
      | refine VY_nil ?_
      | (refine VY_alloc rfl ?_; intro b)
      | (refine VY_box rfl rfl ?_ ?_; rotate_left; intro b)
      | refine VY_len rfl rfl ?_ ?_
      | refine VY_lenr rfl rfl ?_ ?_
      | refine VY_iad rfl rfl rfl ?_ ?_ ?_
      | refine VY_call rfl (by first | fail | exact adv_ok _ _ | exact slow_ok _ _ | exact isValid_ok _ _) ?_ ?_
      | refine VY_callv rfl rfl (by rfl) (by first | fail | exact adv_ok _ _ | exact slow_ok _ _ | exact isValid_ok _ _) ?_ ?_
      | refine VY_det rfl ?_ ?_
      | refine VY_ld1 rfl (by first | rfl | exact hσ | exact lkt_same hσ | exact lkt_same (lkt_same hσ) | fail) ?_ (by first | fail | exact WC_g | exact WC_c (by omega) | exact WC_o (by omega) (by omega) | exact WC_sg | exact WC_sc (by omega) | exact WC_so (by omega) (by omega)) (by rfl) ?_ ?_
      | refine VY_lda rfl (by first | rfl | exact hσ | exact lkt_same hσ | exact lkt_same (lkt_same hσ) | fail) ?_ (by first | fail | exact WC_g | exact WC_c (by omega) | exact WC_o (by omega) (by omega) | exact WC_sg | exact WC_sc (by omega) | exact WC_so (by omega) (by omega)) (by rfl) ?_ ?_
      | refine VY_st rfl rfl (by first | rfl | exact hσ | exact lkt_same hσ | exact lkt_same (lkt_same hσ) | fail) ?_ (by rfl) (by first | fail | exact WC_g | exact WC_c (by omega) | exact WC_o (by omega) (by omega) | exact WC_sg | exact WC_sc (by omega) | exact WC_so (by omega) (by omega)) (by rfl) ?_ ?_)
    | (show List.all _ _ = true; rfl)
    | (show (_ : Nat) = _; rfl)
    | (show LoopW _ _ _ _ _; refine LoopW.intro rfl ?_)
    | (show retQ _ _ _ _ _; first | refine retQk_r rfl ?_ ?_ | refine retQk_n rfl ?_ ?_)
    | (show pureQ _ _ _ _ _ _; first | refine pureQk_r rfl ?_ ?_ | refine pureQk_n rfl ?_ ?_))
  try any_goals (intro hob;  first | (simp_all; done) | (simp only [decide_eq_true_eq, decide_eq_false_iff_not, Bool.not_true, Bool.not_false, Bool.not_eq_true', Bool.not_eq_false', Bool.and_eq_true, Bool.or_eq_true, Bool.and_eq_false_iff, Bool.or_eq_false_iff, Bool.true_and, Bool.and_true, Bool.false_or, Bool.or_false, Option.getD_some, Option.getD_none, forall_const, true_implies, ne_eq, eq_self, Int.toNat_natCast, Bool.xor_true, Bool.xor_false] at *; simp_all; done) | (simp only [decide_eq_true_eq, decide_eq_false_iff_not, Bool.not_true, Bool.not_false, Bool.not_eq_true', Bool.not_eq_false', Bool.and_eq_true, Bool.or_eq_true, Bool.and_eq_false_iff, Bool.or_eq_false_iff, Bool.true_and, Bool.and_true, Bool.false_or, Bool.or_false, Option.getD_some, Option.getD_none, forall_const, true_implies, ne_eq, eq_self, Int.toNat_natCast, Bool.xor_true, Bool.xor_false] at *; omega))
  · rw [hAdv] at hc; simp at hc
  rw [hAdv]
  have hσ2 := lkt_same (y := .cells (WC { s with now := s.now + n } ck own)) hσ
  refine WK_loop (fun k rg σ' => ∃ i : Nat, i ≤ 9 ∧ k = 9 - i ∧ σ' = upt σ 32 bw (.cells (WC { s with now := s.now + n } (ckA ck (slowF s n) w j i) own)) ∧ rg = [(0, .lp 32 bw 0), (2, .v (.int .i64 w)), (3, .v (.int .i64 j)), (9, .v (.int .i64 (slowF s n))), (12, .v (.int .i64 i))]) 9 rfl ⟨_, _, by repeat' (first | exact WkRL.refl _ | refine WkRL.cons ?_ ?_ | exact Wk.refl _ | exact WkL.nil | refine WkL.cons ?_ ?_ | refine Wk.tup ?_ | refine Wk.agg ?_ | exact Wk.nil | exact Wk.sl | exact Wk.own _ | exact Wk.tag), Sub.cons (Sub.refl _), 0, by omega, rfl, by rw [ckA_zero], by rfl⟩ ?_
  rintro k _ _ ⟨i, hi, hk, rfl, rfl⟩
  by_cases hi9 : i < 9
  · have hci := hck i hi9
    have hw1 : IntKind.i64.wrap (ck i + slowF s n) = ck i + slowF s n := i64w (by omega)
    have hw2 : IntKind.i64.wrap (ck i + slowF s n + j) = ck i + slowF s n + j := i64w (by omega)
    repeat' (first
    | (show OB _; first | exact OB.nil | refine OB.rfl ?_ | refine OB.tr ?_ | refine OB.grfl ?_ | refine OB.gtr ?_ | refine OB.self ?_ | refine OB.and ?_ | refine OB.cons ?_ ?_)
    | (show FK _ _ _ _ _ _ _ _; first | refine FK_seq ?_ | refine FK_blk ?_ | refine FK_fn ?_ | refine FK_nil ?_)
    | (show WK _ _ _ _ _ _ _ _; first
      | refine WK_keep rfl ?_
      | refine WK_seq ?_
      | refine WK_reg rfl ?_
      | refine WK_mreg rfl ?_
      | (fail)
      | refine WK_dreg rfl ?_
      | refine WK_block ?_
      | refine WK_ret ?_
      | refine WK_exit rfl ?_
      | refine WK_skip ?_
      | (refine WK_cond rfl ?_ ?_ <;> first | with_reducible exact skipTF | with_reducible exact skipFT | intro hc))
    | (show VX _ _ _ _ _ _ _; first
      | refine VX_run rfl rfl ?_ ?_
      | refine VX_nil ?_
      | (refine VX_alloc rfl ?_; intro b)
      | (refine VX_box rfl rfl ?_ ?_; rotate_left; intro b)
      | (refine VX_len rfl rfl ?_ ?_; rotate_left; intro hlen)
      | (refine VX_lenr rfl rfl ?_ ?_; rotate_left; intro hlen)
      | refine VX_iad rfl rfl rfl ?_ ?_ ?_
      | refine VX_slh rfl rfl rfl ?_ ?_ ?_
      | refine VX_sll rfl rfl rfl ?_ ?_ ?_
      | refine VX_slb rfl rfl rfl rfl ?_ ?_ ?_
      | (refine VX_mk0 rfl (by decide) ?_; intro b)
      | (refine VX_app0 rfl rfl ?_ ?_ ?_ (fun b u c => ?_))
      | (refine VX_app rfl rfl rfl ?_ ?_ ?_ (fun b u c => ?_))
      | refine VX_call rfl (by first | fail | exact adv_ok _ _ | exact slow_ok _ _ | exact isValid_ok _ _) ?_ ?_
      | refine VX_callv rfl rfl (by rfl) (by first | fail | exact adv_ok _ _ | exact slow_ok _ _ | exact isValid_ok _ _) ?_ ?_
      | refine VX_det rfl ?_ ?_
      | refine VX_ld1 rfl (by first | rfl | exact hσ | exact lkt_same hσ | exact lkt_same (lkt_same hσ) | fail) ?_ (by first | fail | exact WC_g | exact WC_c (by omega) | exact WC_o (by omega) (by omega) | exact WC_sg | exact WC_sc (by omega) | exact WC_so (by omega) (by omega)) ?_ ?_
      | refine VX_lda rfl (by first | rfl | exact hσ | exact lkt_same hσ | exact lkt_same (lkt_same hσ) | fail) ?_ (by first | fail | exact WC_g | exact WC_c (by omega) | exact WC_o (by omega) (by omega) | exact WC_sg | exact WC_sc (by omega) | exact WC_so (by omega) (by omega)) ?_ ?_
      | refine VX_st rfl rfl (by first | rfl | exact hσ | exact lkt_same hσ | exact lkt_same (lkt_same hσ) | fail) ?_ (by rfl) (by first | fail | exact WC_g | exact WC_c (by omega) | exact WC_o (by omega) (by omega) | exact WC_sg | exact WC_sc (by omega) | exact WC_so (by omega) (by omega)) ?_ ?_)
    | (show VY _ _ _ _ _ _ _; first
      | refine VY_run rfl rfl ?_ ?_
      | refine VY_nil ?_
      | (refine VY_alloc rfl ?_; intro b)
      | (refine VY_box rfl rfl ?_ ?_; rotate_left; intro b)
      | refine VY_len rfl rfl ?_ ?_
      | refine VY_lenr rfl rfl ?_ ?_
      | refine VY_iad rfl rfl rfl ?_ ?_ ?_
      | refine VY_call rfl (by first | fail | exact adv_ok _ _ | exact slow_ok _ _ | exact isValid_ok _ _) ?_ ?_
      | refine VY_callv rfl rfl (by rfl) (by first | fail | exact adv_ok _ _ | exact slow_ok _ _ | exact isValid_ok _ _) ?_ ?_
      | refine VY_det rfl ?_ ?_
      | refine VY_ld1 rfl (by first | rfl | exact hσ | exact lkt_same hσ | exact lkt_same (lkt_same hσ) | fail) ?_ (by first | fail | exact WC_g | exact WC_c (by omega) | exact WC_o (by omega) (by omega) | exact WC_sg | exact WC_sc (by omega) | exact WC_so (by omega) (by omega)) (by rfl) ?_ ?_
      | refine VY_lda rfl (by first | rfl | exact hσ | exact lkt_same hσ | exact lkt_same (lkt_same hσ) | fail) ?_ (by first | fail | exact WC_g | exact WC_c (by omega) | exact WC_o (by omega) (by omega) | exact WC_sg | exact WC_sc (by omega) | exact WC_so (by omega) (by omega)) (by rfl) ?_ ?_
      | refine VY_st rfl rfl (by first | rfl | exact hσ | exact lkt_same hσ | exact lkt_same (lkt_same hσ) | fail) ?_ (by rfl) (by first | fail | exact WC_g | exact WC_c (by omega) | exact WC_o (by omega) (by omega) | exact WC_sg | exact WC_sc (by omega) | exact WC_so (by omega) (by omega)) (by rfl) ?_ ?_)
    | (show List.all _ _ = true; rfl)
    | (show (_ : Nat) = _; rfl)
    | (show LoopW _ _ _ _ _; refine LoopW.intro rfl ?_)
    | (show retQ _ _ _ _ _; first | refine retQk_r rfl ?_ ?_ | refine retQk_n rfl ?_ ?_)
    | (show pureQ _ _ _ _ _ _; first | refine pureQk_r rfl ?_ ?_ | refine pureQk_n rfl ?_ ?_))
    try any_goals (intro hob;  first | (simp_all; done) | (simp only [decide_eq_true_eq, decide_eq_false_iff_not, Bool.not_true, Bool.not_false, Bool.not_eq_true', Bool.not_eq_false', Bool.and_eq_true, Bool.or_eq_true, Bool.and_eq_false_iff, Bool.or_eq_false_iff, Bool.true_and, Bool.and_true, Bool.false_or, Bool.or_false, Option.getD_some, Option.getD_none, forall_const, true_implies, ne_eq, eq_self, Int.toNat_natCast, Bool.xor_true, Bool.xor_false] at *; simp_all; done) | (simp only [decide_eq_true_eq, decide_eq_false_iff_not, Bool.not_true, Bool.not_false, Bool.not_eq_true', Bool.not_eq_false', Bool.and_eq_true, Bool.or_eq_true, Bool.and_eq_false_iff, Bool.or_eq_false_iff, Bool.true_and, Bool.and_true, Bool.false_or, Bool.or_false, Option.getD_some, Option.getD_none, forall_const, true_implies, ne_eq, eq_self, Int.toNat_natCast, Bool.xor_true, Bool.xor_false] at *; omega))
    any_goals (exfalso; simp at hc; omega)
    any_goals omega
    · have hiw : (i : Int) = w := by simpa using hc
      refine ⟨9 - (i + 1), by omega, [(0, .lp 32 bw 0), (2, .v (.int .i64 w)), (3, .v (.int .i64 j)), (9, .v (.int .i64 (slowF s n))), (12, .v (.int .i64 ((i + 1 : Nat) : Int)))], _, (by rw [upS (by omega)]; repeat' (first | exact WkRL.refl _ | refine WkRL.cons ?_ ?_ | exact Wk.refl _ | exact WkL.nil | refine WkL.cons ?_ ?_ | refine Wk.tup ?_ | refine Wk.agg ?_ | exact Wk.nil | exact Wk.sl | exact Wk.own _ | exact Wk.tag)), ?_, i + 1, by omega, rfl, rfl, rfl⟩
      simp only [Int.toNat_natCast, ckA_at, hw1, updC_updC, updC_at, hw2, upt_upt]
      rw [ckA_step _ _ _ _ _ (by rw [if_pos hiw])]
      exact Sub.refl _
    · have hiw : ¬ (i : Int) = w := by simpa using hc
      refine ⟨9 - (i + 1), by omega, [(0, .lp 32 bw 0), (2, .v (.int .i64 w)), (3, .v (.int .i64 j)), (9, .v (.int .i64 (slowF s n))), (12, .v (.int .i64 ((i + 1 : Nat) : Int)))], _, (by rw [upS (by omega)]; repeat' (first | exact WkRL.refl _ | refine WkRL.cons ?_ ?_ | exact Wk.refl _ | exact WkL.nil | refine WkL.cons ?_ ?_ | refine Wk.tup ?_ | refine Wk.agg ?_ | exact Wk.nil | exact Wk.sl | exact Wk.own _ | exact Wk.tag)), ?_, i + 1, by omega, rfl, rfl, rfl⟩
      simp only [Int.toNat_natCast, ckA_at, hw1, updC_updC, updC_at, hw2, upt_upt]
      rw [ckA_step _ _ _ _ _ (by rw [if_neg hiw, Int.add_zero])]
      exact Sub.refl _
  · obtain rfl : i = 9 := by omega
    clear hi hi9
    repeat' (first
    | (show OB _; first | exact OB.nil | refine OB.rfl ?_ | refine OB.tr ?_ | refine OB.grfl ?_ | refine OB.gtr ?_ | refine OB.self ?_ | refine OB.and ?_ | refine OB.cons ?_ ?_)
    | (show FK _ _ _ _ _ _ _ _; first | refine FK_seq ?_ | refine FK_blk ?_ | refine FK_fn ?_ | refine FK_nil ?_)
    | (show WK _ _ _ _ _ _ _ _; first
      | refine WK_keep rfl ?_
      | refine WK_seq ?_
      | refine WK_reg rfl ?_
      | refine WK_mreg rfl ?_
      | (fail)
      | refine WK_dreg rfl ?_
      | refine WK_block ?_
      | refine WK_ret ?_
      | refine WK_exit rfl ?_
      | refine WK_skip ?_
      | (refine WK_cond rfl ?_ ?_ <;> first | with_reducible exact skipTF | with_reducible exact skipFT | intro hc))
    | (show VX _ _ _ _ _ _ _; first
      | refine VX_run rfl rfl ?_ ?_
      | refine VX_nil ?_
      | (refine VX_alloc rfl ?_; intro b)
      | (refine VX_box rfl rfl ?_ ?_; rotate_left; intro b)
      | (refine VX_len rfl rfl ?_ ?_; rotate_left; intro hlen)
      | (refine VX_lenr rfl rfl ?_ ?_; rotate_left; intro hlen)
      | refine VX_iad rfl rfl rfl ?_ ?_ ?_
      | refine VX_slh rfl rfl rfl ?_ ?_ ?_
      | refine VX_sll rfl rfl rfl ?_ ?_ ?_
      | refine VX_slb rfl rfl rfl rfl ?_ ?_ ?_
      | (refine VX_mk0 rfl (by decide) ?_; intro b)
      | (refine VX_app0 rfl rfl ?_ ?_ ?_ (fun b u c => ?_))
      | (refine VX_app rfl rfl rfl ?_ ?_ ?_ (fun b u c => ?_))
      | refine VX_call rfl (by first | fail | exact adv_ok _ _ | exact slow_ok _ _ | exact isValid_ok _ _) ?_ ?_
      | refine VX_callv rfl rfl (by rfl) (by first | fail | exact adv_ok _ _ | exact slow_ok _ _ | exact isValid_ok _ _) ?_ ?_
      | refine VX_det rfl ?_ ?_
      | refine VX_ld1 rfl (by first | rfl | exact hσ | exact lkt_same hσ | exact lkt_same (lkt_same hσ) | fail) ?_ (by first | fail | exact WC_g | exact WC_c (by omega) | exact WC_o (by omega) (by omega) | exact WC_sg | exact WC_sc (by omega) | exact WC_so (by omega) (by omega)) ?_ ?_
      | refine VX_lda rfl (by first | rfl | exact hσ | exact lkt_same hσ | exact lkt_same (lkt_same hσ) | fail) ?_ (by first | fail | exact WC_g | exact WC_c (by omega) | exact WC_o (by omega) (by omega) | exact WC_sg | exact WC_sc (by omega) | exact WC_so (by omega) (by omega)) ?_ ?_
      | refine VX_st rfl rfl (by first | rfl | exact hσ | exact lkt_same hσ | exact lkt_same (lkt_same hσ) | fail) ?_ (by rfl) (by first | fail | exact WC_g | exact WC_c (by omega) | exact WC_o (by omega) (by omega) | exact WC_sg | exact WC_sc (by omega) | exact WC_so (by omega) (by omega)) ?_ ?_)
    | (show VY _ _ _ _ _ _ _; first
      | refine VY_run rfl rfl ?_ ?_
      | refine VY_nil ?_
      | (refine VY_alloc rfl ?_; intro b)
      | (refine VY_box rfl rfl ?_ ?_; rotate_left; intro b)
      | refine VY_len rfl rfl ?_ ?_
      | refine VY_lenr rfl rfl ?_ ?_
      | refine VY_iad rfl rfl rfl ?_ ?_ ?_
      | refine VY_call rfl (by first | fail | exact adv_ok _ _ | exact slow_ok _ _ | exact isValid_ok _ _) ?_ ?_
      | refine VY_callv rfl rfl (by rfl) (by first | fail | exact adv_ok _ _ | exact slow_ok _ _ | exact isValid_ok _ _) ?_ ?_
      | refine VY_det rfl ?_ ?_
      | refine VY_ld1 rfl (by first | rfl | exact hσ | exact lkt_same hσ | exact lkt_same (lkt_same hσ) | fail) ?_ (by first | fail | exact WC_g | exact WC_c (by omega) | exact WC_o (by omega) (by omega) | exact WC_sg | exact WC_sc (by omega) | exact WC_so (by omega) (by omega)) (by rfl) ?_ ?_
      | refine VY_lda rfl (by first | rfl | exact hσ | exact lkt_same hσ | exact lkt_same (lkt_same hσ) | fail) ?_ (by first | fail | exact WC_g | exact WC_c (by omega) | exact WC_o (by omega) (by omega) | exact WC_sg | exact WC_sc (by omega) | exact WC_so (by omega) (by omega)) (by rfl) ?_ ?_
      | refine VY_st rfl rfl (by first | rfl | exact hσ | exact lkt_same hσ | exact lkt_same (lkt_same hσ) | fail) ?_ (by rfl) (by first | fail | exact WC_g | exact WC_c (by omega) | exact WC_o (by omega) (by omega) | exact WC_sg | exact WC_sc (by omega) | exact WC_so (by omega) (by omega)) (by rfl) ?_ ?_)
    | (show List.all _ _ = true; rfl)
    | (show (_ : Nat) = _; rfl)
    | (show LoopW _ _ _ _ _; refine LoopW.intro rfl ?_)
    | (show retQ _ _ _ _ _; first | refine retQk_r rfl ?_ ?_ | refine retQk_n rfl ?_ ?_)
    | (show pureQ _ _ _ _ _ _; first | refine pureQk_r rfl ?_ ?_ | refine pureQk_n rfl ?_ ?_))
    any_goals (exfalso; simp at hc; done)
    exact ⟨rfl, Sub.refl _⟩
end Go.Proofs.Ytcibmkacgfhnkaa
