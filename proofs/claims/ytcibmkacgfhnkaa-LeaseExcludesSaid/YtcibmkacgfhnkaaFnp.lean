/- The law LeaseExcludes. -/
import Derived.Test.YtcibmkacgfhnkaaEx
import Derived.Test.YtcibmkacgfhnkaaSxSt
set_option linter.unusedSimpArgs false
set_option linter.unusedVariables false
set_option maxRecDepth 100000
set_option maxHeartbeats 4000000
namespace Go.Proofs.Ytcibmkacgfhnkaa
open Go.Sx Go.Proofs

theorem _root_.Go.Sx.Sub.eqc {t b t' b' : Nat} {c c' : List AV} {x : Blk} {σ : Store} (h : c = c') : Sub ((t, b, .cells c') :: σ) ((t, b, .cells c) :: (t', b', x) :: σ) := h ▸ Sub.same (Sub.cons (Sub.refl _))

theorem WC_zero {n d : Int} : [AV.v (.int .i64 0), .v (.int .i64 n), .v (.int .i64 d), .sl false 5 []] ++ (CK (fun _ => 0) ++ OW fun _ _ => Lease.zero) = WC ⟨0, n, d, []⟩ (fun _ => 0) fun _ _ => Lease.zero := rfl
attribute [local irreducible] WC

section
variable {i : Nat} {s : St} {ck : Nat → Int} {own : Nat → Nat → Lease} {r w f : Int}
theorem Inv5.grantI (h : Inv5 i s ck own) (hi : i ≤ 1000) (hr0 : 0 ≤ r) (hr : r < 16) (hw0 : 1 ≤ w) (hw : w < 9) (hf : 0 ≤ f ∧ f ≤ 1099511627776) (hc : (grantF s r w f).2.2 = 0) :
    Inv5 (i + 1) (grantF s r w f).1 ck (updO own w.toNat r.toNat (localF (grantF s r w f).1 (grantF s r w f).2.1 (ck w.toNat))) := by
  have hnow := h.now
  have hlen := h.len
  have ho : (Lease.mk r w 1 0 f).Own := own_of hr0 hr hw0 (by omega) hf.1 hf.2
  have he := h.ep.new (r := r) (w := w) (f := f)
  by_cases hR : Refused s r w
  · rw [grantF_ref h.v ho hR] at hc; cases hc
  · rw [grantF_of h.v ho hR (by omega) (by omega)]
    obtain ⟨r, rfl⟩ := Int.eq_ofNat_of_zero_le hr0
    obtain ⟨w, rfl⟩ := Int.eq_ofNat_of_zero_le (show 0 ≤ w by omega)
    simp only [Int.toNat_natCast]
    exact h.grant hi (by omega) (by omega) (by omega) ho hR
theorem Inv5.code (h : Inv5 i s ck own) (hi : i ≤ 1000) (hr0 : 0 ≤ r) (hr : r < 16) (hw0 : 1 ≤ w) (hw : w < 9) (hf : 0 ≤ f ∧ f ≤ 1099511627776) : (grantF s r w f).2.2 = 0 ∨ (grantF s r w f).2.2 = 420 := by
  have hnow := h.now
  have hlen := h.len
  have ho : (Lease.mk r w 1 0 f).Own := own_of hr0 hr hw0 (by omega) hf.1 hf.2
  have he := h.ep.new (r := r) (w := w) (f := f)
  by_cases hR : Refused s r w
  · rw [grantF_ref h.v ho hR]; exact .inr rfl
  · rw [grantF_of h.v ho hR (by omega) (by omega)]; exact .inl rfl
theorem Inv5.jumpI (h : Inv5 i s ck own) (hi : i ≤ 1000) {j : Int} (hw0 : 1 ≤ w) (hw : w < 9) (hj : 0 ≤ j ∧ j < 20) : Inv5 (i + 1) s (updC ck w.toNat (IntKind.i64.wrap (ck w.toNat + j))) own := by
  have := h.ckb w.toNat (by omega)
  rw [i64w (by omega)]
  exact h.jump (by omega) (by omega)
end

theorem excludes_ok (length drift : Int) (ls : List Act) : Pure Try.prog 5 [.v (.int .i64 length), .v (.int .i64 drift), .sl false 5 (ls.map Act.cells)] (.v (.bool true)) := by
  refine Pure.runk (fun d => bif ([1000009, 1000037, 1000045, 1000046, 1000047, 1000087, 1000100, 1000101, 1000102, 1000115, 1000117, 1000118, 1000119, 1000124, 1000126, 1000127, 1000128, 1000131, 1000132, 1000133, 1000134, 1000070, 1000072, 1000074, 1000075, 1000076, 1000082, 1000083, 1000084, 1000137] : List Nat).elem d then 1 else 0) Try.func5 comp5 era5 (by simp [c5]) fun σ => ?_
  have a0 := Int.emod_nonneg length (b := 100) (by omega)
  have a1 := Int.emod_lt_of_pos length (b := 100) (by omega)
  have b0 := Int.emod_nonneg drift (b := 501) (by omega)
  have b1 := Int.emod_lt_of_pos drift (b := 501) (by omega)
  have wa : IntKind.i64.wrap (1 + length % 100) = 1 + length % 100 := i64w (by omega)
  obtain ⟨hv0, hn0⟩ := newF_ok (len := 1 + length % 100) (d := drift % 501) (by omega) (by omega) (by omega) (by omega)
  repeat' (first
    | (show OB _; first | exact OB.nil | refine OB.rfl ?_ | refine OB.tr ?_ | refine OB.grfl ?_ | refine OB.gtr ?_ | refine OB.self ?_ | refine OB.and ?_ | refine OB.cons ?_ ?_)
    | (show FK _ _ _ _ _ _ _ _; first | refine FK_seq ?_ | refine FK_blk ?_ | refine FK_fn ?_ | refine FK_nil ?_)
    | (show WK _ _ _ _ _ _ _ _; first
      | refine WK_keep rfl ?_
      | refine WK_seq ?_
      | refine WK_reg rfl ?_
      | refine WK_mreg rfl ?_
      | (refine WK_dregS 95 rfl rfl rfl ?_)
      | refine WK_dreg rfl ?_
      | refine WK_block ?_
      | refine WK_ret ?_
      | refine WK_exit rfl ?_
      | refine WK_skip ?_
      | (refine WK_cond rfl ?_ ?_ <;> first | with_reducible exact skipTF | with_reducible exact skipFT | intro hc))
    | (show VX _ _ _ _ _ _ _; first
      | refine VX_run rfl rfl ?_ ?_
      | refine VX_nil ?_
      | (refine VX_alloc rfl ?_; intro b)
      | (refine VX_box rfl rfl ?_ ?_; rotate_left; intro b)
      | (refine VX_len rfl rfl ?_ ?_; rotate_left; intro hlen)
      | (refine VX_lenr rfl rfl ?_ ?_; rotate_left; intro hlen)
      | refine VX_iad rfl rfl rfl ?_ ?_ ?_
      | refine VX_slh rfl rfl rfl ?_ ?_ ?_
      | refine VX_sll rfl rfl rfl ?_ ?_ ?_
      | refine VX_slb rfl rfl rfl rfl ?_ ?_ ?_
      | (refine VX_mk0 rfl (by decide) ?_; intro b)
      | (refine VX_app0 rfl rfl ?_ ?_ ?_ (fun b u c => ?_))
      | (refine VX_app rfl rfl rfl ?_ ?_ ?_ (fun b u c => ?_))
      | refine VX_call rfl (by first | fail | exact new_ok _ _ | exact grant_ok _ _ _ _ | exact local_ok _ _ _ | exact around_ok _ _ (by omega) (by omega) | exact few80_ok _ _ | exact example_ok) ?_ ?_
      | refine VX_callv rfl rfl (by rfl) (by first | fail | exact new_ok _ _ | exact grant_ok _ _ _ _ | exact local_ok _ _ _ | exact around_ok _ _ (by omega) (by omega) | exact few80_ok _ _ | exact example_ok) ?_ ?_
      | refine VX_det rfl ?_ ?_
      | refine VX_ld1 rfl (by first | rfl | exact hσ | exact lkt_same hσ | exact lkt_same (lkt_same hσ) | fail) ?_ (by first | fail | exact WC_g | exact WC_c (by omega) | exact WC_o (by omega) (by omega) | exact WC_sg | exact WC_sc (by omega) | exact WC_so (by omega) (by omega)) ?_ ?_
      | refine VX_lda rfl (by first | rfl | exact hσ | exact lkt_same hσ | exact lkt_same (lkt_same hσ) | fail) ?_ (by first | fail | exact WC_g | exact WC_c (by omega) | exact WC_o (by omega) (by omega) | exact WC_sg | exact WC_sc (by omega) | exact WC_so (by omega) (by omega)) ?_ ?_
      | refine VX_st rfl rfl (by first | rfl | exact hσ | exact lkt_same hσ | exact lkt_same (lkt_same hσ) | fail) ?_ (by rfl) (by first | fail | exact WC_g | exact WC_c (by omega) | exact WC_o (by omega) (by omega) | exact WC_sg | exact WC_sc (by omega) | exact WC_so (by omega) (by omega)) ?_ ?_)
    | (show VY _ _ _ _ _ _ _; first
      | refine VY_run rfl rfl ?_ ?_
      | refine VY_nil ?_
      | (refine VY_alloc rfl ?_; intro b)
      | (refine VY_box rfl rfl ?_ ?_; rotate_left; intro b)
      | refine VY_len rfl rfl ?_ ?_
      | refine VY_lenr rfl rfl ?_ ?_
      | refine VY_iad rfl rfl rfl ?_ ?_ ?_
      | refine VY_call rfl (by first | fail | exact new_ok _ _ | exact grant_ok _ _ _ _ | exact local_ok _ _ _ | exact around_ok _ _ (by omega) (by omega) | exact few80_ok _ _ | exact example_ok) ?_ ?_
      | refine VY_callv rfl rfl (by rfl) (by first | fail | exact new_ok _ _ | exact grant_ok _ _ _ _ | exact local_ok _ _ _ | exact around_ok _ _ (by omega) (by omega) | exact few80_ok _ _ | exact example_ok) ?_ ?_
      | refine VY_det rfl ?_ ?_
      | refine VY_ld1 rfl (by first | rfl | exact hσ | exact lkt_same hσ | exact lkt_same (lkt_same hσ) | fail) ?_ (by first | fail | exact WC_g | exact WC_c (by omega) | exact WC_o (by omega) (by omega) | exact WC_sg | exact WC_sc (by omega) | exact WC_so (by omega) (by omega)) (by rfl) ?_ ?_
      | refine VY_lda rfl (by first | rfl | exact hσ | exact lkt_same hσ | exact lkt_same (lkt_same hσ) | fail) ?_ (by first | fail | exact WC_g | exact WC_c (by omega) | exact WC_o (by omega) (by omega) | exact WC_sg | exact WC_sc (by omega) | exact WC_so (by omega) (by omega)) (by rfl) ?_ ?_
      | refine VY_st rfl rfl (by first | rfl | exact hσ | exact lkt_same hσ | exact lkt_same (lkt_same hσ) | fail) ?_ (by rfl) (by first | fail | exact WC_g | exact WC_c (by omega) | exact WC_o (by omega) (by omega) | exact WC_sg | exact WC_sc (by omega) | exact WC_so (by omega) (by omega)) (by rfl) ?_ ?_)
    | (show List.all _ _ = true; rfl)
    | (show (_ : Nat) = _; rfl)
    | (show LoopW _ _ _ _ _; refine LoopW.intro rfl ?_)
    | (show retQ _ _ _ _ _; first | refine retQk_r rfl ?_ ?_ | refine retQk_n rfl ?_ ?_)
    | (show pureQ _ _ _ _ _ _; first | refine pureQk_r rfl ?_ ?_ | refine pureQk_n rfl ?_ ?_))
  try any_goals (intro hob;  first | (simp_all; done) | (simp only [decide_eq_true_eq, decide_eq_false_iff_not, Bool.not_true, Bool.not_false, Bool.not_eq_true', Bool.not_eq_false', Bool.and_eq_true, Bool.or_eq_true, Bool.and_eq_false_iff, Bool.or_eq_false_iff, Bool.true_and, Bool.and_true, Bool.false_or, Bool.or_false, Option.getD_some, Option.getD_none, forall_const, true_implies, ne_eq, eq_self, Int.toNat_natCast, Bool.xor_true, Bool.xor_false] at *; simp_all; done) | (simp only [decide_eq_true_eq, decide_eq_false_iff_not, Bool.not_true, Bool.not_false, Bool.not_eq_true', Bool.not_eq_false', Bool.and_eq_true, Bool.or_eq_true, Bool.and_eq_false_iff, Bool.or_eq_false_iff, Bool.true_and, Bool.and_true, Bool.false_or, Bool.or_false, Option.getD_some, Option.getD_none, forall_const, true_implies, ne_eq, eq_self, Int.toNat_natCast, Bool.xor_true, Bool.xor_false] at *; omega))
  · rw [wa, hn0] at hc; simp at hc
  rw [wa, hn0]
  revert b
  intro b9
  refine WK_loop (fun k rg σ' => ∃ i : Nat, i ≤ 9 ∧ k = 9 - i ∧ ∃ ck : Nat → Int, (∀ k, k < 9 → 0 ≤ ck k ∧ ck k ≤ 1000) ∧ σ' = (32, b9, .cells (WC ⟨0, 1 + length % 100, drift % 501, []⟩ ck fun _ _ => Lease.zero)) :: σ ∧ rg = [(0, .v (.int .i64 length)), (1, .v (.int .i64 drift)), (2, .sl false 5 (ls.map Act.cells)), (9, .lp 32 b9 0), (10, .v (.int .i64 i))]) 9 rfl ⟨[(0, .v (.int .i64 length)), (1, .v (.int .i64 drift)), (2, .sl false 5 (ls.map Act.cells)), (9, .lp 32 b9 0), (10, .v (.int .i64 0))], (32, b9, .cells (WC ⟨0, 1 + length % 100, drift % 501, []⟩ (fun _ => 0) fun _ _ => Lease.zero)) :: σ, by repeat' (first | exact WkRL.refl _ | refine WkRL.cons ?_ ?_ | exact Wk.refl _ | exact WkL.nil | refine WkL.cons ?_ ?_ | refine Wk.tup ?_ | refine Wk.agg ?_ | exact Wk.nil | exact Wk.sl | exact Wk.own _ | exact Wk.tag), Sub.eqc ?_, 0, by omega, rfl, (fun _ => 0), (fun _ _ => by dsimp only; omega), rfl, rfl⟩ ?_
  · exact Eq.trans (by rfl) WC_zero
  rintro k _ _ ⟨i, hi, hk, ck, hck, rfl, rfl⟩
  by_cases hi9 : i < 9
  · repeat' (first
    | (show OB _; first | exact OB.nil | refine OB.rfl ?_ | refine OB.tr ?_ | refine OB.grfl ?_ | refine OB.gtr ?_ | refine OB.self ?_ | refine OB.and ?_ | refine OB.cons ?_ ?_)
    | (show FK _ _ _ _ _ _ _ _; first | refine FK_seq ?_ | refine FK_blk ?_ | refine FK_fn ?_ | refine FK_nil ?_)
    | (show WK _ _ _ _ _ _ _ _; first
      | refine WK_keep rfl ?_
      | refine WK_seq ?_
      | refine WK_reg rfl ?_
      | refine WK_mreg rfl ?_
      | (refine WK_dregS 95 rfl rfl rfl ?_)
      | refine WK_dreg rfl ?_
      | refine WK_block ?_
      | refine WK_ret ?_
      | refine WK_exit rfl ?_
      | refine WK_skip ?_
      | (refine WK_cond rfl ?_ ?_ <;> first | with_reducible exact skipTF | with_reducible exact skipFT | intro hc))
    | (show VX _ _ _ _ _ _ _; first
      | refine VX_run rfl rfl ?_ ?_
      | refine VX_nil ?_
      | (refine VX_alloc rfl ?_; intro b)
      | (refine VX_box rfl rfl ?_ ?_; rotate_left; intro b)
      | (refine VX_len rfl rfl ?_ ?_; rotate_left; intro hlen)
      | (refine VX_lenr rfl rfl ?_ ?_; rotate_left; intro hlen)
      | refine VX_iad rfl rfl rfl ?_ ?_ ?_
      | refine VX_slh rfl rfl rfl ?_ ?_ ?_
      | refine VX_sll rfl rfl rfl ?_ ?_ ?_
      | refine VX_slb rfl rfl rfl rfl ?_ ?_ ?_
      | (refine VX_mk0 rfl (by decide) ?_; intro b)
      | (refine VX_app0 rfl rfl ?_ ?_ ?_ (fun b u c => ?_))
      | (refine VX_app rfl rfl rfl ?_ ?_ ?_ (fun b u c => ?_))
      | refine VX_call rfl (by first | fail | exact new_ok _ _ | exact grant_ok _ _ _ _ | exact local_ok _ _ _ | exact around_ok _ _ (by omega) (by omega) | exact few80_ok _ _ | exact example_ok) ?_ ?_
      | refine VX_callv rfl rfl (by rfl) (by first | fail | exact new_ok _ _ | exact grant_ok _ _ _ _ | exact local_ok _ _ _ | exact around_ok _ _ (by omega) (by omega) | exact few80_ok _ _ | exact example_ok) ?_ ?_
      | refine VX_det rfl ?_ ?_
      | refine VX_ld1 rfl (by first | rfl | exact hσ | exact lkt_same hσ | exact lkt_same (lkt_same hσ) | fail) ?_ (by first | fail | exact WC_g | exact WC_c (by omega) | exact WC_o (by omega) (by omega) | exact WC_sg | exact WC_sc (by omega) | exact WC_so (by omega) (by omega)) ?_ ?_
      | refine VX_lda rfl (by first | rfl | exact hσ | exact lkt_same hσ | exact lkt_same (lkt_same hσ) | fail) ?_ (by first | fail | exact WC_g | exact WC_c (by omega) | exact WC_o (by omega) (by omega) | exact WC_sg | exact WC_sc (by omega) | exact WC_so (by omega) (by omega)) ?_ ?_
      | refine VX_st rfl rfl (by first | rfl | exact hσ | exact lkt_same hσ | exact lkt_same (lkt_same hσ) | fail) ?_ (by rfl) (by first | fail | exact WC_g | exact WC_c (by omega) | exact WC_o (by omega) (by omega) | exact WC_sg | exact WC_sc (by omega) | exact WC_so (by omega) (by omega)) ?_ ?_)
    | (show VY _ _ _ _ _ _ _; first
      | refine VY_run rfl rfl ?_ ?_
      | refine VY_nil ?_
      | (refine VY_alloc rfl ?_; intro b)
      | (refine VY_box rfl rfl ?_ ?_; rotate_left; intro b)
      | refine VY_len rfl rfl ?_ ?_
      | refine VY_lenr rfl rfl ?_ ?_
      | refine VY_iad rfl rfl rfl ?_ ?_ ?_
      | refine VY_call rfl (by first | fail | exact new_ok _ _ | exact grant_ok _ _ _ _ | exact local_ok _ _ _ | exact around_ok _ _ (by omega) (by omega) | exact few80_ok _ _ | exact example_ok) ?_ ?_
      | refine VY_callv rfl rfl (by rfl) (by first | fail | exact new_ok _ _ | exact grant_ok _ _ _ _ | exact local_ok _ _ _ | exact around_ok _ _ (by omega) (by omega) | exact few80_ok _ _ | exact example_ok) ?_ ?_
      | refine VY_det rfl ?_ ?_
      | refine VY_ld1 rfl (by first | rfl | exact hσ | exact lkt_same hσ | exact lkt_same (lkt_same hσ) | fail) ?_ (by first | fail | exact WC_g | exact WC_c (by omega) | exact WC_o (by omega) (by omega) | exact WC_sg | exact WC_sc (by omega) | exact WC_so (by omega) (by omega)) (by rfl) ?_ ?_
      | refine VY_lda rfl (by first | rfl | exact hσ | exact lkt_same hσ | exact lkt_same (lkt_same hσ) | fail) ?_ (by first | fail | exact WC_g | exact WC_c (by omega) | exact WC_o (by omega) (by omega) | exact WC_sg | exact WC_sc (by omega) | exact WC_so (by omega) (by omega)) (by rfl) ?_ ?_
      | refine VY_st rfl rfl (by first | rfl | exact hσ | exact lkt_same hσ | exact lkt_same (lkt_same hσ) | fail) ?_ (by rfl) (by first | fail | exact WC_g | exact WC_c (by omega) | exact WC_o (by omega) (by omega) | exact WC_sg | exact WC_sc (by omega) | exact WC_so (by omega) (by omega)) (by rfl) ?_ ?_)
    | (show List.all _ _ = true; rfl)
    | (show (_ : Nat) = _; rfl)
    | (show LoopW _ _ _ _ _; refine LoopW.intro rfl ?_)
    | (show retQ _ _ _ _ _; first | refine retQk_r rfl ?_ ?_ | refine retQk_n rfl ?_ ?_)
    | (show pureQ _ _ _ _ _ _; first | refine pureQk_r rfl ?_ ?_ | refine pureQk_n rfl ?_ ?_))
    try any_goals (intro hob;  first | (simp_all; done) | (simp only [decide_eq_true_eq, decide_eq_false_iff_not, Bool.not_true, Bool.not_false, Bool.not_eq_true', Bool.not_eq_false', Bool.and_eq_true, Bool.or_eq_true, Bool.and_eq_false_iff, Bool.or_eq_false_iff, Bool.true_and, Bool.and_true, Bool.false_or, Bool.or_false, Option.getD_some, Option.getD_none, forall_const, true_implies, ne_eq, eq_self, Int.toNat_natCast, Bool.xor_true, Bool.xor_false] at *; simp_all; done) | (simp only [decide_eq_true_eq, decide_eq_false_iff_not, Bool.not_true, Bool.not_false, Bool.not_eq_true', Bool.not_eq_false', Bool.and_eq_true, Bool.or_eq_true, Bool.and_eq_false_iff, Bool.or_eq_false_iff, Bool.true_and, Bool.and_true, Bool.false_or, Bool.or_false, Option.getD_some, Option.getD_none, forall_const, true_implies, ne_eq, eq_self, Int.toNat_natCast, Bool.xor_true, Bool.xor_false] at *; omega))
    any_goals (exfalso; simp at hc; omega)
    any_goals omega
    have c0 := Int.emod_nonneg (IntKind.i64.wrap (IntKind.i64.wrap (length * (i : Int)) + drift)) (b := 1000) (by omega)
    have c1 := Int.emod_lt_of_pos (IntKind.i64.wrap (IntKind.i64.wrap (length * (i : Int)) + drift)) (b := 1000) (by omega)
    refine ⟨9 - (i + 1), by omega, [(0, .v (.int .i64 length)), (1, .v (.int .i64 drift)), (2, .sl false 5 (ls.map Act.cells)), (9, .lp 32 b9 0), (10, .v (.int .i64 ((i + 1 : Nat) : Int)))], _, (by rw [upS (by omega)]; repeat' (first | exact WkRL.refl _ | refine WkRL.cons ?_ ?_ | exact Wk.refl _ | exact WkL.nil | refine WkL.cons ?_ ?_ | refine Wk.tup ?_ | refine Wk.agg ?_ | exact Wk.nil | exact Wk.sl | exact Wk.own _ | exact Wk.tag)), Sub.refl _, i + 1, by omega, rfl, _, fun q hq => ?_, rfl, rfl⟩
    unfold updC
    split
    · omega
    · exact hck q hq
  · obtain rfl : i = 9 := by omega
    clear hi hi9
    repeat' (first
    | (show OB _; first | exact OB.nil | refine OB.rfl ?_ | refine OB.tr ?_ | refine OB.grfl ?_ | refine OB.gtr ?_ | refine OB.self ?_ | refine OB.and ?_ | refine OB.cons ?_ ?_)
    | (show FK _ _ _ _ _ _ _ _; first | refine FK_seq ?_ | refine FK_blk ?_ | refine FK_fn ?_ | refine FK_nil ?_)
    | (show WK _ _ _ _ _ _ _ _; first
      | refine WK_keep rfl ?_
      | refine WK_seq ?_
      | refine WK_reg rfl ?_
      | refine WK_mreg rfl ?_
      | (refine WK_dregS 95 rfl rfl rfl ?_)
      | refine WK_dreg rfl ?_
      | refine WK_block ?_
      | refine WK_ret ?_
      | refine WK_exit rfl ?_
      | refine WK_skip ?_
      | (refine WK_cond rfl ?_ ?_ <;> first | with_reducible exact skipTF | with_reducible exact skipFT | intro hc))
    | (show VX _ _ _ _ _ _ _; first
      | refine VX_run rfl rfl ?_ ?_
      | refine VX_nil ?_
      | (refine VX_alloc rfl ?_; intro b)
      | (refine VX_box rfl rfl ?_ ?_; rotate_left; intro b)
      | (refine VX_len rfl rfl ?_ ?_; rotate_left; intro hlen)
      | (refine VX_lenr rfl rfl ?_ ?_; rotate_left; intro hlen)
      | refine VX_iad rfl rfl rfl ?_ ?_ ?_
      | refine VX_slh rfl rfl rfl ?_ ?_ ?_
      | refine VX_sll rfl rfl rfl ?_ ?_ ?_
      | refine VX_slb rfl rfl rfl rfl ?_ ?_ ?_
      | (refine VX_mk0 rfl (by decide) ?_; intro b)
      | (refine VX_app0 rfl rfl ?_ ?_ ?_ (fun b u c => ?_))
      | (refine VX_app rfl rfl rfl ?_ ?_ ?_ (fun b u c => ?_))
      | refine VX_call rfl (by first | fail | exact new_ok _ _ | exact grant_ok _ _ _ _ | exact local_ok _ _ _ | exact around_ok _ _ (by omega) (by omega) | exact few80_ok _ _ | exact example_ok) ?_ ?_
      | refine VX_callv rfl rfl (by rfl) (by first | fail | exact new_ok _ _ | exact grant_ok _ _ _ _ | exact local_ok _ _ _ | exact around_ok _ _ (by omega) (by omega) | exact few80_ok _ _ | exact example_ok) ?_ ?_
      | refine VX_det rfl ?_ ?_
      | refine VX_ld1 rfl (by first | rfl | exact hσ | exact lkt_same hσ | exact lkt_same (lkt_same hσ) | fail) ?_ (by first | fail | exact WC_g | exact WC_c (by omega) | exact WC_o (by omega) (by omega) | exact WC_sg | exact WC_sc (by omega) | exact WC_so (by omega) (by omega)) ?_ ?_
      | refine VX_lda rfl (by first | rfl | exact hσ | exact lkt_same hσ | exact lkt_same (lkt_same hσ) | fail) ?_ (by first | fail | exact WC_g | exact WC_c (by omega) | exact WC_o (by omega) (by omega) | exact WC_sg | exact WC_sc (by omega) | exact WC_so (by omega) (by omega)) ?_ ?_
      | refine VX_st rfl rfl (by first | rfl | exact hσ | exact lkt_same hσ | exact lkt_same (lkt_same hσ) | fail) ?_ (by rfl) (by first | fail | exact WC_g | exact WC_c (by omega) | exact WC_o (by omega) (by omega) | exact WC_sg | exact WC_sc (by omega) | exact WC_so (by omega) (by omega)) ?_ ?_)
    | (show VY _ _ _ _ _ _ _; first
      | refine VY_run rfl rfl ?_ ?_
      | refine VY_nil ?_
      | (refine VY_alloc rfl ?_; intro b)
      | (refine VY_box rfl rfl ?_ ?_; rotate_left; intro b)
      | refine VY_len rfl rfl ?_ ?_
      | refine VY_lenr rfl rfl ?_ ?_
      | refine VY_iad rfl rfl rfl ?_ ?_ ?_
      | refine VY_call rfl (by first | fail | exact new_ok _ _ | exact grant_ok _ _ _ _ | exact local_ok _ _ _ | exact around_ok _ _ (by omega) (by omega) | exact few80_ok _ _ | exact example_ok) ?_ ?_
      | refine VY_callv rfl rfl (by rfl) (by first | fail | exact new_ok _ _ | exact grant_ok _ _ _ _ | exact local_ok _ _ _ | exact around_ok _ _ (by omega) (by omega) | exact few80_ok _ _ | exact example_ok) ?_ ?_
      | refine VY_det rfl ?_ ?_
      | refine VY_ld1 rfl (by first | rfl | exact hσ | exact lkt_same hσ | exact lkt_same (lkt_same hσ) | fail) ?_ (by first | fail | exact WC_g | exact WC_c (by omega) | exact WC_o (by omega) (by omega) | exact WC_sg | exact WC_sc (by omega) | exact WC_so (by omega) (by omega)) (by rfl) ?_ ?_
      | refine VY_lda rfl (by first | rfl | exact hσ | exact lkt_same hσ | exact lkt_same (lkt_same hσ) | fail) ?_ (by first | fail | exact WC_g | exact WC_c (by omega) | exact WC_o (by omega) (by omega) | exact WC_sg | exact WC_sc (by omega) | exact WC_so (by omega) (by omega)) (by rfl) ?_ ?_
      | refine VY_st rfl rfl (by first | rfl | exact hσ | exact lkt_same hσ | exact lkt_same (lkt_same hσ) | fail) ?_ (by rfl) (by first | fail | exact WC_g | exact WC_c (by omega) | exact WC_o (by omega) (by omega) | exact WC_sg | exact WC_sc (by omega) | exact WC_so (by omega) (by omega)) (by rfl) ?_ ?_)
    | (show List.all _ _ = true; rfl)
    | (show (_ : Nat) = _; rfl)
    | (show LoopW _ _ _ _ _; refine LoopW.intro rfl ?_)
    | (show retQ _ _ _ _ _; first | refine retQk_r rfl ?_ ?_ | refine retQk_n rfl ?_ ?_)
    | (show pureQ _ _ _ _ _ _; first | refine pureQk_r rfl ?_ ?_ | refine pureQk_n rfl ?_ ?_))
    try any_goals (intro hob;  first | (simp_all; done) | (simp only [decide_eq_true_eq, decide_eq_false_iff_not, Bool.not_true, Bool.not_false, Bool.not_eq_true', Bool.not_eq_false', Bool.and_eq_true, Bool.or_eq_true, Bool.and_eq_false_iff, Bool.or_eq_false_iff, Bool.true_and, Bool.and_true, Bool.false_or, Bool.or_false, Option.getD_some, Option.getD_none, forall_const, true_implies, ne_eq, eq_self, Int.toNat_natCast, Bool.xor_true, Bool.xor_false] at *; simp_all; done) | (simp only [decide_eq_true_eq, decide_eq_false_iff_not, Bool.not_true, Bool.not_false, Bool.not_eq_true', Bool.not_eq_false', Bool.and_eq_true, Bool.or_eq_true, Bool.and_eq_false_iff, Bool.or_eq_false_iff, Bool.true_and, Bool.and_true, Bool.false_or, Bool.or_false, Option.getD_some, Option.getD_none, forall_const, true_implies, ne_eq, eq_self, Int.toNat_natCast, Bool.xor_true, Bool.xor_false] at *; omega))
    any_goals (exfalso; simp at hc; done)
    have hacts : (List.take 80 ls).length ≤ 80 := by simp; omega
    generalize List.take 80 ls = acts at *
    clear hc hk
    refine WK_loop (fun n rg σ' => ∃ i : Nat, i ≤ acts.length ∧ n = acts.length - i ∧ ∃ (s : St) (ck : Nat → Int) (own : Nat → Nat → Lease), Inv5 i s ck own ∧ σ' = (32, b9, .cells (WC s ck own)) :: σ ∧ rg = [(9, .lp 32 b9 0), (11, .sl false 5 (acts.map Act.cells)), (12, .v (.int .i64 i))]) acts.length rfl ⟨_, _, by repeat' (first | exact WkRL.refl _ | refine WkRL.cons ?_ ?_ | exact Wk.refl _ | exact WkL.nil | refine WkL.cons ?_ ?_ | refine Wk.tup ?_ | refine Wk.agg ?_ | exact Wk.nil | exact Wk.sl | exact Wk.own _ | exact Wk.tag), by repeat' (first | exact Sub.refl _ | refine Sub.same ?_ | refine Sub.cons ?_), 0, Nat.zero_le _, rfl, ⟨0, 1 + length % 100, drift % 501, []⟩, ck, fun _ _ => Lease.zero, Inv5.zero hv0 (by omega) hck, rfl, by rfl⟩ ?_
    clear hv0 hn0 wa hck ck
    rintro n _ _ ⟨i, hi, hn, s, ck, own, hG, rfl, rfl⟩
    have hB := hG.v.bd
    have hnow := hG.now
    have hlen2 := hG.len
    have hi80 : i ≤ 80 := by omega
    have hW : IntKind.i64.wrap (1 + (acts.getD (i : Int).toNat default).w % 8) = 1 + (acts.getD (i : Int).toNat default).w % 8 := i64w (by omega)
    repeat' (first
    | (show OB _; first | exact OB.nil | refine OB.rfl ?_ | refine OB.tr ?_ | refine OB.grfl ?_ | refine OB.gtr ?_ | refine OB.self ?_ | refine OB.and ?_ | refine OB.cons ?_ ?_)
    | (show FK _ _ _ _ _ _ _ _; first | refine FK_seq ?_ | refine FK_blk ?_ | refine FK_fn ?_ | refine FK_nil ?_)
    | (show WK _ _ _ _ _ _ _ _; first
      | refine WK_keep rfl ?_
      | refine WK_seq ?_
      | refine WK_reg rfl ?_
      | refine WK_mreg rfl ?_
      | (refine WK_dregS 95 rfl rfl rfl ?_)
      | refine WK_dreg rfl ?_
      | refine WK_block ?_
      | refine WK_ret ?_
      | refine WK_exit rfl ?_
      | refine WK_skip ?_
      | (refine WK_cond rfl ?_ ?_ <;> first | with_reducible exact skipTF | with_reducible exact skipFT | intro hc))
    | (show VX _ _ _ _ _ _ _; first
      | refine VX_run rfl rfl ?_ ?_
      | refine VX_nil ?_
      | (refine VX_alloc rfl ?_; intro b)
      | (refine VX_box rfl rfl ?_ ?_; rotate_left; intro b)
      | (refine VX_len rfl rfl ?_ ?_; rotate_left; intro hlen)
      | (refine VX_lenr rfl rfl ?_ ?_; rotate_left; intro hlen)
      | refine VX_iad rfl rfl rfl ?_ ?_ ?_
      | refine VX_slh rfl rfl rfl ?_ ?_ ?_
      | refine VX_sll rfl rfl rfl ?_ ?_ ?_
      | refine VX_slb rfl rfl rfl rfl ?_ ?_ ?_
      | (refine VX_mk0 rfl (by decide) ?_; intro b)
      | (refine VX_app0 rfl rfl ?_ ?_ ?_ (fun b u c => ?_))
      | (refine VX_app rfl rfl rfl ?_ ?_ ?_ (fun b u c => ?_))
      | refine VX_call rfl (by first | fail | exact new_ok _ _ | exact grant_ok _ _ _ _ | exact local_ok _ _ _ | exact around_ok _ _ (by omega) (by omega) | exact few80_ok _ _ | exact example_ok) ?_ ?_
      | refine VX_callv rfl rfl (by rfl) (by first | fail | exact new_ok _ _ | exact grant_ok _ _ _ _ | exact local_ok _ _ _ | exact around_ok _ _ (by omega) (by omega) | exact few80_ok _ _ | exact example_ok) ?_ ?_
      | refine VX_det rfl ?_ ?_
      | refine VX_ld1 rfl (by first | rfl | exact hσ | exact lkt_same hσ | exact lkt_same (lkt_same hσ) | fail) ?_ (by first | fail | exact WC_g | exact WC_c (by omega) | exact WC_o (by omega) (by omega) | exact WC_sg | exact WC_sc (by omega) | exact WC_so (by omega) (by omega)) ?_ ?_
      | refine VX_lda rfl (by first | rfl | exact hσ | exact lkt_same hσ | exact lkt_same (lkt_same hσ) | fail) ?_ (by first | fail | exact WC_g | exact WC_c (by omega) | exact WC_o (by omega) (by omega) | exact WC_sg | exact WC_sc (by omega) | exact WC_so (by omega) (by omega)) ?_ ?_
      | refine VX_st rfl rfl (by first | rfl | exact hσ | exact lkt_same hσ | exact lkt_same (lkt_same hσ) | fail) ?_ (by rfl) (by first | fail | exact WC_g | exact WC_c (by omega) | exact WC_o (by omega) (by omega) | exact WC_sg | exact WC_sc (by omega) | exact WC_so (by omega) (by omega)) ?_ ?_)
    | (show VY _ _ _ _ _ _ _; first
      | refine VY_run rfl rfl ?_ ?_
      | refine VY_nil ?_
      | (refine VY_alloc rfl ?_; intro b)
      | (refine VY_box rfl rfl ?_ ?_; rotate_left; intro b)
      | refine VY_len rfl rfl ?_ ?_
      | refine VY_lenr rfl rfl ?_ ?_
      | refine VY_iad rfl rfl rfl ?_ ?_ ?_
      | refine VY_call rfl (by first | fail | exact new_ok _ _ | exact grant_ok _ _ _ _ | exact local_ok _ _ _ | exact around_ok _ _ (by omega) (by omega) | exact few80_ok _ _ | exact example_ok) ?_ ?_
      | refine VY_callv rfl rfl (by rfl) (by first | fail | exact new_ok _ _ | exact grant_ok _ _ _ _ | exact local_ok _ _ _ | exact around_ok _ _ (by omega) (by omega) | exact few80_ok _ _ | exact example_ok) ?_ ?_
      | refine VY_det rfl ?_ ?_
      | refine VY_ld1 rfl (by first | rfl | exact hσ | exact lkt_same hσ | exact lkt_same (lkt_same hσ) | fail) ?_ (by first | fail | exact WC_g | exact WC_c (by omega) | exact WC_o (by omega) (by omega) | exact WC_sg | exact WC_sc (by omega) | exact WC_so (by omega) (by omega)) (by rfl) ?_ ?_
      | refine VY_lda rfl (by first | rfl | exact hσ | exact lkt_same hσ | exact lkt_same (lkt_same hσ) | fail) ?_ (by first | fail | exact WC_g | exact WC_c (by omega) | exact WC_o (by omega) (by omega) | exact WC_sg | exact WC_sc (by omega) | exact WC_so (by omega) (by omega)) (by rfl) ?_ ?_
      | refine VY_st rfl rfl (by first | rfl | exact hσ | exact lkt_same hσ | exact lkt_same (lkt_same hσ) | fail) ?_ (by rfl) (by first | fail | exact WC_g | exact WC_c (by omega) | exact WC_o (by omega) (by omega) | exact WC_sg | exact WC_sc (by omega) | exact WC_so (by omega) (by omega)) (by rfl) ?_ ?_)
    | (show List.all _ _ = true; rfl)
    | (show (_ : Nat) = _; rfl)
    | (show LoopW _ _ _ _ _; refine LoopW.intro rfl ?_)
    | (show retQ _ _ _ _ _; first | refine retQk_r rfl ?_ ?_ | refine retQk_n rfl ?_ ?_)
    | (show pureQ _ _ _ _ _ _; first | refine pureQk_r rfl ?_ ?_ | refine pureQk_n rfl ?_ ?_))
    try any_goals (intro hob;  first | (simp_all; done) | (simp only [decide_eq_true_eq, decide_eq_false_iff_not, Bool.not_true, Bool.not_false, Bool.not_eq_true', Bool.not_eq_false', Bool.and_eq_true, Bool.or_eq_true, Bool.and_eq_false_iff, Bool.or_eq_false_iff, Bool.true_and, Bool.and_true, Bool.false_or, Bool.or_false, Option.getD_some, Option.getD_none, forall_const, true_implies, ne_eq, eq_self, Int.toNat_natCast, Bool.xor_true, Bool.xor_false] at *; simp_all; done) | (simp only [decide_eq_true_eq, decide_eq_false_iff_not, Bool.not_true, Bool.not_false, Bool.not_eq_true', Bool.not_eq_false', Bool.and_eq_true, Bool.or_eq_true, Bool.and_eq_false_iff, Bool.or_eq_false_iff, Bool.true_and, Bool.and_true, Bool.false_or, Bool.or_false, Option.getD_some, Option.getD_none, forall_const, true_implies, ne_eq, eq_self, Int.toNat_natCast, Bool.xor_true, Bool.xor_false] at *; omega))
    any_goals omega
    · refine VY_mid rfl (wadv_ok rfl hG.v (by omega) (by omega) (by omega) (fun q hq => by have := hG.ckb q hq; omega) (by omega)) OB.nil (fun x σ' hR => ?_) (fun ch σ' hR => ?_)
      rotate_left
      · obtain ⟨h, _⟩ := hR; cases h
      obtain ⟨h, rfl⟩ := hR; cases h
      have hI := hG.adv (n := (acts.getD (i : Int).toNat default).n % 40) (w := IntKind.i64.wrap (1 + (acts.getD (i : Int).toNat default).w % 8)) (j := (acts.getD (i : Int).toNat default).jump % 3) (by omega) (by omega) (by omega) (by omega) (by omega)
      have hlt : i < acts.length := by have h := ‹decide ((i : Int) < (acts.length : Int)) = true›; simpa using h
      repeat' (first
    | (show OB _; first | exact OB.nil | refine OB.rfl ?_ | refine OB.tr ?_ | refine OB.grfl ?_ | refine OB.gtr ?_ | refine OB.self ?_ | refine OB.and ?_ | refine OB.cons ?_ ?_)
    | (show FK _ _ _ _ _ _ _ _; first | refine FK_seq ?_ | refine FK_blk ?_ | refine FK_fn ?_ | refine FK_nil ?_)
    | (show WK _ _ _ _ _ _ _ _; first
      | refine WK_keep rfl ?_
      | refine WK_seq ?_
      | refine WK_reg rfl ?_
      | refine WK_mreg rfl ?_
      | (refine WK_dregS 95 rfl rfl rfl ?_)
      | refine WK_dreg rfl ?_
      | refine WK_block ?_
      | refine WK_ret ?_
      | refine WK_exit rfl ?_
      | refine WK_skip ?_
      | (refine WK_cond rfl ?_ ?_ <;> first | with_reducible exact skipTF | with_reducible exact skipFT | intro hc))
    | (show VX _ _ _ _ _ _ _; first
      | refine VX_run rfl rfl ?_ ?_
      | refine VX_nil ?_
      | (refine VX_alloc rfl ?_; intro b)
      | (refine VX_box rfl rfl ?_ ?_; rotate_left; intro b)
      | (refine VX_len rfl rfl ?_ ?_; rotate_left; intro hlen)
      | (refine VX_lenr rfl rfl ?_ ?_; rotate_left; intro hlen)
      | refine VX_iad rfl rfl rfl ?_ ?_ ?_
      | refine VX_slh rfl rfl rfl ?_ ?_ ?_
      | refine VX_sll rfl rfl rfl ?_ ?_ ?_
      | refine VX_slb rfl rfl rfl rfl ?_ ?_ ?_
      | (refine VX_mk0 rfl (by decide) ?_; intro b)
      | (refine VX_app0 rfl rfl ?_ ?_ ?_ (fun b u c => ?_))
      | (refine VX_app rfl rfl rfl ?_ ?_ ?_ (fun b u c => ?_))
      | refine VX_call rfl (by first | fail | exact new_ok _ _ | exact grant_ok _ _ _ _ | exact local_ok _ _ _ | exact around_ok _ _ (by omega) (by omega) | exact few80_ok _ _ | exact example_ok) ?_ ?_
      | refine VX_callv rfl rfl (by rfl) (by first | fail | exact new_ok _ _ | exact grant_ok _ _ _ _ | exact local_ok _ _ _ | exact around_ok _ _ (by omega) (by omega) | exact few80_ok _ _ | exact example_ok) ?_ ?_
      | refine VX_det rfl ?_ ?_
      | refine VX_ld1 rfl (by first | rfl | exact hσ | exact lkt_same hσ | exact lkt_same (lkt_same hσ) | fail) ?_ (by first | fail | exact WC_g | exact WC_c (by omega) | exact WC_o (by omega) (by omega) | exact WC_sg | exact WC_sc (by omega) | exact WC_so (by omega) (by omega)) ?_ ?_
      | refine VX_lda rfl (by first | rfl | exact hσ | exact lkt_same hσ | exact lkt_same (lkt_same hσ) | fail) ?_ (by first | fail | exact WC_g | exact WC_c (by omega) | exact WC_o (by omega) (by omega) | exact WC_sg | exact WC_sc (by omega) | exact WC_so (by omega) (by omega)) ?_ ?_
      | refine VX_st rfl rfl (by first | rfl | exact hσ | exact lkt_same hσ | exact lkt_same (lkt_same hσ) | fail) ?_ (by rfl) (by first | fail | exact WC_g | exact WC_c (by omega) | exact WC_o (by omega) (by omega) | exact WC_sg | exact WC_sc (by omega) | exact WC_so (by omega) (by omega)) ?_ ?_)
    | (show VY _ _ _ _ _ _ _; first
      | refine VY_run rfl rfl ?_ ?_
      | refine VY_nil ?_
      | (refine VY_alloc rfl ?_; intro b)
      | (refine VY_box rfl rfl ?_ ?_; rotate_left; intro b)
      | refine VY_len rfl rfl ?_ ?_
      | refine VY_lenr rfl rfl ?_ ?_
      | refine VY_iad rfl rfl rfl ?_ ?_ ?_
      | refine VY_call rfl (by first | fail | exact new_ok _ _ | exact grant_ok _ _ _ _ | exact local_ok _ _ _ | exact around_ok _ _ (by omega) (by omega) | exact few80_ok _ _ | exact example_ok) ?_ ?_
      | refine VY_callv rfl rfl (by rfl) (by first | fail | exact new_ok _ _ | exact grant_ok _ _ _ _ | exact local_ok _ _ _ | exact around_ok _ _ (by omega) (by omega) | exact few80_ok _ _ | exact example_ok) ?_ ?_
      | refine VY_det rfl ?_ ?_
      | refine VY_ld1 rfl (by first | rfl | exact hσ | exact lkt_same hσ | exact lkt_same (lkt_same hσ) | fail) ?_ (by first | fail | exact WC_g | exact WC_c (by omega) | exact WC_o (by omega) (by omega) | exact WC_sg | exact WC_sc (by omega) | exact WC_so (by omega) (by omega)) (by rfl) ?_ ?_
      | refine VY_lda rfl (by first | rfl | exact hσ | exact lkt_same hσ | exact lkt_same (lkt_same hσ) | fail) ?_ (by first | fail | exact WC_g | exact WC_c (by omega) | exact WC_o (by omega) (by omega) | exact WC_sg | exact WC_sc (by omega) | exact WC_so (by omega) (by omega)) (by rfl) ?_ ?_
      | refine VY_st rfl rfl (by first | rfl | exact hσ | exact lkt_same hσ | exact lkt_same (lkt_same hσ) | fail) ?_ (by rfl) (by first | fail | exact WC_g | exact WC_c (by omega) | exact WC_o (by omega) (by omega) | exact WC_sg | exact WC_sc (by omega) | exact WC_so (by omega) (by omega)) (by rfl) ?_ ?_)
    | (show List.all _ _ = true; rfl)
    | (show (_ : Nat) = _; rfl)
    | (show LoopW _ _ _ _ _; refine LoopW.intro rfl ?_)
    | (show retQ _ _ _ _ _; first | refine retQk_r rfl ?_ ?_ | refine retQk_n rfl ?_ ?_)
    | (show pureQ _ _ _ _ _ _; first | refine pureQk_r rfl ?_ ?_ | refine pureQk_n rfl ?_ ?_))
      any_goals (exfalso; simp at hc; done)
      clear hc
      refine VX_spec rfl (excl_ok rfl hI.excl) OB.nil (fun x σ' hR => ?_) (fun ch σ' hR => ?_)
      · obtain ⟨h, rfl⟩ := hR; cases h
        repeat' (first
    | (show OB _; first | exact OB.nil | refine OB.rfl ?_ | refine OB.tr ?_ | refine OB.grfl ?_ | refine OB.gtr ?_ | refine OB.self ?_ | refine OB.and ?_ | refine OB.cons ?_ ?_)
    | (show FK _ _ _ _ _ _ _ _; first | refine FK_seq ?_ | refine FK_blk ?_ | refine FK_fn ?_ | refine FK_nil ?_)
    | (show WK _ _ _ _ _ _ _ _; first
      | refine WK_keep rfl ?_
      | refine WK_seq ?_
      | refine WK_reg rfl ?_
      | refine WK_mreg rfl ?_
      | (refine WK_dregS 95 rfl rfl rfl ?_)
      | refine WK_dreg rfl ?_
      | refine WK_block ?_
      | refine WK_ret ?_
      | refine WK_exit rfl ?_
      | refine WK_skip ?_
      | (refine WK_cond rfl ?_ ?_ <;> first | with_reducible exact skipTF | with_reducible exact skipFT | intro hc))
    | (show VX _ _ _ _ _ _ _; first
      | refine VX_run rfl rfl ?_ ?_
      | refine VX_nil ?_
      | (refine VX_alloc rfl ?_; intro b)
      | (refine VX_box rfl rfl ?_ ?_; rotate_left; intro b)
      | (refine VX_len rfl rfl ?_ ?_; rotate_left; intro hlen)
      | (refine VX_lenr rfl rfl ?_ ?_; rotate_left; intro hlen)
      | refine VX_iad rfl rfl rfl ?_ ?_ ?_
      | refine VX_slh rfl rfl rfl ?_ ?_ ?_
      | refine VX_sll rfl rfl rfl ?_ ?_ ?_
      | refine VX_slb rfl rfl rfl rfl ?_ ?_ ?_
      | (refine VX_mk0 rfl (by decide) ?_; intro b)
      | (refine VX_app0 rfl rfl ?_ ?_ ?_ (fun b u c => ?_))
      | (refine VX_app rfl rfl rfl ?_ ?_ ?_ (fun b u c => ?_))
      | refine VX_call rfl (by first | fail | exact new_ok _ _ | exact grant_ok _ _ _ _ | exact local_ok _ _ _ | exact around_ok _ _ (by omega) (by omega) | exact few80_ok _ _ | exact example_ok) ?_ ?_
      | refine VX_callv rfl rfl (by rfl) (by first | fail | exact new_ok _ _ | exact grant_ok _ _ _ _ | exact local_ok _ _ _ | exact around_ok _ _ (by omega) (by omega) | exact few80_ok _ _ | exact example_ok) ?_ ?_
      | refine VX_det rfl ?_ ?_
      | refine VX_ld1 rfl (by first | rfl | exact hσ | exact lkt_same hσ | exact lkt_same (lkt_same hσ) | fail) ?_ (by first | fail | exact WC_g | exact WC_c (by omega) | exact WC_o (by omega) (by omega) | exact WC_sg | exact WC_sc (by omega) | exact WC_so (by omega) (by omega)) ?_ ?_
      | refine VX_lda rfl (by first | rfl | exact hσ | exact lkt_same hσ | exact lkt_same (lkt_same hσ) | fail) ?_ (by first | fail | exact WC_g | exact WC_c (by omega) | exact WC_o (by omega) (by omega) | exact WC_sg | exact WC_sc (by omega) | exact WC_so (by omega) (by omega)) ?_ ?_
      | refine VX_st rfl rfl (by first | rfl | exact hσ | exact lkt_same hσ | exact lkt_same (lkt_same hσ) | fail) ?_ (by rfl) (by first | fail | exact WC_g | exact WC_c (by omega) | exact WC_o (by omega) (by omega) | exact WC_sg | exact WC_sc (by omega) | exact WC_so (by omega) (by omega)) ?_ ?_)
    | (show VY _ _ _ _ _ _ _; first
      | refine VY_run rfl rfl ?_ ?_
      | refine VY_nil ?_
      | (refine VY_alloc rfl ?_; intro b)
      | (refine VY_box rfl rfl ?_ ?_; rotate_left; intro b)
      | refine VY_len rfl rfl ?_ ?_
      | refine VY_lenr rfl rfl ?_ ?_
      | refine VY_iad rfl rfl rfl ?_ ?_ ?_
      | refine VY_call rfl (by first | fail | exact new_ok _ _ | exact grant_ok _ _ _ _ | exact local_ok _ _ _ | exact around_ok _ _ (by omega) (by omega) | exact few80_ok _ _ | exact example_ok) ?_ ?_
      | refine VY_callv rfl rfl (by rfl) (by first | fail | exact new_ok _ _ | exact grant_ok _ _ _ _ | exact local_ok _ _ _ | exact around_ok _ _ (by omega) (by omega) | exact few80_ok _ _ | exact example_ok) ?_ ?_
      | refine VY_det rfl ?_ ?_
      | refine VY_ld1 rfl (by first | rfl | exact hσ | exact lkt_same hσ | exact lkt_same (lkt_same hσ) | fail) ?_ (by first | fail | exact WC_g | exact WC_c (by omega) | exact WC_o (by omega) (by omega) | exact WC_sg | exact WC_sc (by omega) | exact WC_so (by omega) (by omega)) (by rfl) ?_ ?_
      | refine VY_lda rfl (by first | rfl | exact hσ | exact lkt_same hσ | exact lkt_same (lkt_same hσ) | fail) ?_ (by first | fail | exact WC_g | exact WC_c (by omega) | exact WC_o (by omega) (by omega) | exact WC_sg | exact WC_sc (by omega) | exact WC_so (by omega) (by omega)) (by rfl) ?_ ?_
      | refine VY_st rfl rfl (by first | rfl | exact hσ | exact lkt_same hσ | exact lkt_same (lkt_same hσ) | fail) ?_ (by rfl) (by first | fail | exact WC_g | exact WC_c (by omega) | exact WC_o (by omega) (by omega) | exact WC_sg | exact WC_sc (by omega) | exact WC_so (by omega) (by omega)) (by rfl) ?_ ?_)
    | (show List.all _ _ = true; rfl)
    | (show (_ : Nat) = _; rfl)
    | (show LoopW _ _ _ _ _; refine LoopW.intro rfl ?_)
    | (show retQ _ _ _ _ _; first | refine retQk_r rfl ?_ ?_ | refine retQk_n rfl ?_ ?_)
    | (show pureQ _ _ _ _ _ _; first | refine pureQk_r rfl ?_ ?_ | refine pureQk_n rfl ?_ ?_))
        any_goals (exfalso; simp at hc; done)
        refine ⟨acts.length - (i + 1), by omega, [(9, .lp 32 b9 0), (11, .sl false 5 (acts.map Act.cells)), (12, .v (.int .i64 ((i + 1 : Nat) : Int)))], _, (by rw [upS (by omega)]; repeat' (first | exact WkRL.refl _ | refine WkRL.cons ?_ ?_ | exact Wk.refl _ | exact WkL.nil | refine WkL.cons ?_ ?_ | refine Wk.tup ?_ | refine Wk.agg ?_ | exact Wk.nil | exact Wk.sl | exact Wk.own _ | exact Wk.tag)), ?_, i + 1, by omega, rfl, _, _, _, hI, rfl, rfl⟩
        repeat' (first | exact Sub.refl _ | refine Sub.same ?_ | refine Sub.cons ?_)
      · obtain ⟨h, _⟩ := hR; cases h
    · have hI := hG.grantI (r := (acts.getD (i : Int).toNat default).r % 16) (w := IntKind.i64.wrap (1 + (acts.getD (i : Int).toNat default).w % 8)) (f := (acts.getD (i : Int).toNat default).n % 1000) (by omega) (by omega) (by omega) (by omega) (by omega) (by omega) (of_decide_eq_true (by assumption))
      have hlt : i < acts.length := by have h := ‹decide ((i : Int) < (acts.length : Int)) = true›; simpa using h
      clear hc
      refine VX_spec rfl (excl_ok rfl hI.excl) OB.nil (fun x σ' hR => ?_) (fun ch σ' hR => ?_)
      · obtain ⟨h, rfl⟩ := hR; cases h
        repeat' (first
    | (show OB _; first | exact OB.nil | refine OB.rfl ?_ | refine OB.tr ?_ | refine OB.grfl ?_ | refine OB.gtr ?_ | refine OB.self ?_ | refine OB.and ?_ | refine OB.cons ?_ ?_)
    | (show FK _ _ _ _ _ _ _ _; first | refine FK_seq ?_ | refine FK_blk ?_ | refine FK_fn ?_ | refine FK_nil ?_)
    | (show WK _ _ _ _ _ _ _ _; first
      | refine WK_keep rfl ?_
      | refine WK_seq ?_
      | refine WK_reg rfl ?_
      | refine WK_mreg rfl ?_
      | (refine WK_dregS 95 rfl rfl rfl ?_)
      | refine WK_dreg rfl ?_
      | refine WK_block ?_
      | refine WK_ret ?_
      | refine WK_exit rfl ?_
      | refine WK_skip ?_
      | (refine WK_cond rfl ?_ ?_ <;> first | with_reducible exact skipTF | with_reducible exact skipFT | intro hc))
    | (show VX _ _ _ _ _ _ _; first
      | refine VX_run rfl rfl ?_ ?_
      | refine VX_nil ?_
      | (refine VX_alloc rfl ?_; intro b)
      | (refine VX_box rfl rfl ?_ ?_; rotate_left; intro b)
      | (refine VX_len rfl rfl ?_ ?_; rotate_left; intro hlen)
      | (refine VX_lenr rfl rfl ?_ ?_; rotate_left; intro hlen)
      | refine VX_iad rfl rfl rfl ?_ ?_ ?_
      | refine VX_slh rfl rfl rfl ?_ ?_ ?_
      | refine VX_sll rfl rfl rfl ?_ ?_ ?_
      | refine VX_slb rfl rfl rfl rfl ?_ ?_ ?_
      | (refine VX_mk0 rfl (by decide) ?_; intro b)
      | (refine VX_app0 rfl rfl ?_ ?_ ?_ (fun b u c => ?_))
      | (refine VX_app rfl rfl rfl ?_ ?_ ?_ (fun b u c => ?_))
      | refine VX_call rfl (by first | fail | exact new_ok _ _ | exact grant_ok _ _ _ _ | exact local_ok _ _ _ | exact around_ok _ _ (by omega) (by omega) | exact few80_ok _ _ | exact example_ok) ?_ ?_
      | refine VX_callv rfl rfl (by rfl) (by first | fail | exact new_ok _ _ | exact grant_ok _ _ _ _ | exact local_ok _ _ _ | exact around_ok _ _ (by omega) (by omega) | exact few80_ok _ _ | exact example_ok) ?_ ?_
      | refine VX_det rfl ?_ ?_
      | refine VX_ld1 rfl (by first | rfl | exact hσ | exact lkt_same hσ | exact lkt_same (lkt_same hσ) | fail) ?_ (by first | fail | exact WC_g | exact WC_c (by omega) | exact WC_o (by omega) (by omega) | exact WC_sg | exact WC_sc (by omega) | exact WC_so (by omega) (by omega)) ?_ ?_
      | refine VX_lda rfl (by first | rfl | exact hσ | exact lkt_same hσ | exact lkt_same (lkt_same hσ) | fail) ?_ (by first | fail | exact WC_g | exact WC_c (by omega) | exact WC_o (by omega) (by omega) | exact WC_sg | exact WC_sc (by omega) | exact WC_so (by omega) (by omega)) ?_ ?_
      | refine VX_st rfl rfl (by first | rfl | exact hσ | exact lkt_same hσ | exact lkt_same (lkt_same hσ) | fail) ?_ (by rfl) (by first | fail | exact WC_g | exact WC_c (by omega) | exact WC_o (by omega) (by omega) | exact WC_sg | exact WC_sc (by omega) | exact WC_so (by omega) (by omega)) ?_ ?_)
    | (show VY _ _ _ _ _ _ _; first
      | refine VY_run rfl rfl ?_ ?_
      | refine VY_nil ?_
      | (refine VY_alloc rfl ?_; intro b)
      | (refine VY_box rfl rfl ?_ ?_; rotate_left; intro b)
      | refine VY_len rfl rfl ?_ ?_
      | refine VY_lenr rfl rfl ?_ ?_
      | refine VY_iad rfl rfl rfl ?_ ?_ ?_
      | refine VY_call rfl (by first | fail | exact new_ok _ _ | exact grant_ok _ _ _ _ | exact local_ok _ _ _ | exact around_ok _ _ (by omega) (by omega) | exact few80_ok _ _ | exact example_ok) ?_ ?_
      | refine VY_callv rfl rfl (by rfl) (by first | fail | exact new_ok _ _ | exact grant_ok _ _ _ _ | exact local_ok _ _ _ | exact around_ok _ _ (by omega) (by omega) | exact few80_ok _ _ | exact example_ok) ?_ ?_
      | refine VY_det rfl ?_ ?_
      | refine VY_ld1 rfl (by first | rfl | exact hσ | exact lkt_same hσ | exact lkt_same (lkt_same hσ) | fail) ?_ (by first | fail | exact WC_g | exact WC_c (by omega) | exact WC_o (by omega) (by omega) | exact WC_sg | exact WC_sc (by omega) | exact WC_so (by omega) (by omega)) (by rfl) ?_ ?_
      | refine VY_lda rfl (by first | rfl | exact hσ | exact lkt_same hσ | exact lkt_same (lkt_same hσ) | fail) ?_ (by first | fail | exact WC_g | exact WC_c (by omega) | exact WC_o (by omega) (by omega) | exact WC_sg | exact WC_sc (by omega) | exact WC_so (by omega) (by omega)) (by rfl) ?_ ?_
      | refine VY_st rfl rfl (by first | rfl | exact hσ | exact lkt_same hσ | exact lkt_same (lkt_same hσ) | fail) ?_ (by rfl) (by first | fail | exact WC_g | exact WC_c (by omega) | exact WC_o (by omega) (by omega) | exact WC_sg | exact WC_sc (by omega) | exact WC_so (by omega) (by omega)) (by rfl) ?_ ?_)
    | (show List.all _ _ = true; rfl)
    | (show (_ : Nat) = _; rfl)
    | (show LoopW _ _ _ _ _; refine LoopW.intro rfl ?_)
    | (show retQ _ _ _ _ _; first | refine retQk_r rfl ?_ ?_ | refine retQk_n rfl ?_ ?_)
    | (show pureQ _ _ _ _ _ _; first | refine pureQk_r rfl ?_ ?_ | refine pureQk_n rfl ?_ ?_))
        any_goals (exfalso; simp at hc; done)
        refine ⟨acts.length - (i + 1), by omega, [(9, .lp 32 b9 0), (11, .sl false 5 (acts.map Act.cells)), (12, .v (.int .i64 ((i + 1 : Nat) : Int)))], _, (by rw [upS (by omega)]; repeat' (first | exact WkRL.refl _ | refine WkRL.cons ?_ ?_ | exact Wk.refl _ | exact WkL.nil | refine WkL.cons ?_ ?_ | refine Wk.tup ?_ | refine Wk.agg ?_ | exact Wk.nil | exact Wk.sl | exact Wk.own _ | exact Wk.tag)), ?_, i + 1, by omega, rfl, _, _, _, hI, rfl, rfl⟩
        repeat' (first | exact Sub.refl _ | refine Sub.same ?_ | refine Sub.cons ?_)
      · obtain ⟨h, _⟩ := hR; cases h
    · exfalso
      have hI := hG.code (r := (acts.getD (i : Int).toNat default).r % 16) (w := IntKind.i64.wrap (1 + (acts.getD (i : Int).toNat default).w % 8)) (f := (acts.getD (i : Int).toNat default).n % 1000) (by omega) (by omega) (by omega) (by omega) (by omega) (by omega)
      have h1 := of_decide_eq_false ‹decide ((grantF s ((acts.getD (i : Int).toNat default).r % 16) (IntKind.i64.wrap (1 + (acts.getD (i : Int).toNat default).w % 8)) ((acts.getD (i : Int).toNat default).n % 1000)).2.2 = 0) = false›
      rcases hI with hI | hI
      · exact h1 hI
      · rw [hI] at hc; simp at hc
    · have hI := hG.up
      have hlt : i < acts.length := by have h := ‹decide ((i : Int) < (acts.length : Int)) = true›; simpa using h
      clear hc
      refine VX_spec rfl (excl_ok rfl hI.excl) OB.nil (fun x σ' hR => ?_) (fun ch σ' hR => ?_)
      · obtain ⟨h, rfl⟩ := hR; cases h
        repeat' (first
    | (show OB _; first | exact OB.nil | refine OB.rfl ?_ | refine OB.tr ?_ | refine OB.grfl ?_ | refine OB.gtr ?_ | refine OB.self ?_ | refine OB.and ?_ | refine OB.cons ?_ ?_)
    | (show FK _ _ _ _ _ _ _ _; first | refine FK_seq ?_ | refine FK_blk ?_ | refine FK_fn ?_ | refine FK_nil ?_)
    | (show WK _ _ _ _ _ _ _ _; first
      | refine WK_keep rfl ?_
      | refine WK_seq ?_
      | refine WK_reg rfl ?_
      | refine WK_mreg rfl ?_
      | (refine WK_dregS 95 rfl rfl rfl ?_)
      | refine WK_dreg rfl ?_
      | refine WK_block ?_
      | refine WK_ret ?_
      | refine WK_exit rfl ?_
      | refine WK_skip ?_
      | (refine WK_cond rfl ?_ ?_ <;> first | with_reducible exact skipTF | with_reducible exact skipFT | intro hc))
    | (show VX _ _ _ _ _ _ _; first
      | refine VX_run rfl rfl ?_ ?_
      | refine VX_nil ?_
      | (refine VX_alloc rfl ?_; intro b)
      | (refine VX_box rfl rfl ?_ ?_; rotate_left; intro b)
      | (refine VX_len rfl rfl ?_ ?_; rotate_left; intro hlen)
      | (refine VX_lenr rfl rfl ?_ ?_; rotate_left; intro hlen)
      | refine VX_iad rfl rfl rfl ?_ ?_ ?_
      | refine VX_slh rfl rfl rfl ?_ ?_ ?_
      | refine VX_sll rfl rfl rfl ?_ ?_ ?_
      | refine VX_slb rfl rfl rfl rfl ?_ ?_ ?_
      | (refine VX_mk0 rfl (by decide) ?_; intro b)
      | (refine VX_app0 rfl rfl ?_ ?_ ?_ (fun b u c => ?_))
      | (refine VX_app rfl rfl rfl ?_ ?_ ?_ (fun b u c => ?_))
      | refine VX_call rfl (by first | fail | exact new_ok _ _ | exact grant_ok _ _ _ _ | exact local_ok _ _ _ | exact around_ok _ _ (by omega) (by omega) | exact few80_ok _ _ | exact example_ok) ?_ ?_
      | refine VX_callv rfl rfl (by rfl) (by first | fail | exact new_ok _ _ | exact grant_ok _ _ _ _ | exact local_ok _ _ _ | exact around_ok _ _ (by omega) (by omega) | exact few80_ok _ _ | exact example_ok) ?_ ?_
      | refine VX_det rfl ?_ ?_
      | refine VX_ld1 rfl (by first | rfl | exact hσ | exact lkt_same hσ | exact lkt_same (lkt_same hσ) | fail) ?_ (by first | fail | exact WC_g | exact WC_c (by omega) | exact WC_o (by omega) (by omega) | exact WC_sg | exact WC_sc (by omega) | exact WC_so (by omega) (by omega)) ?_ ?_
      | refine VX_lda rfl (by first | rfl | exact hσ | exact lkt_same hσ | exact lkt_same (lkt_same hσ) | fail) ?_ (by first | fail | exact WC_g | exact WC_c (by omega) | exact WC_o (by omega) (by omega) | exact WC_sg | exact WC_sc (by omega) | exact WC_so (by omega) (by omega)) ?_ ?_
      | refine VX_st rfl rfl (by first | rfl | exact hσ | exact lkt_same hσ | exact lkt_same (lkt_same hσ) | fail) ?_ (by rfl) (by first | fail | exact WC_g | exact WC_c (by omega) | exact WC_o (by omega) (by omega) | exact WC_sg | exact WC_sc (by omega) | exact WC_so (by omega) (by omega)) ?_ ?_)
    | (show VY _ _ _ _ _ _ _; first
      | refine VY_run rfl rfl ?_ ?_
      | refine VY_nil ?_
      | (refine VY_alloc rfl ?_; intro b)
      | (refine VY_box rfl rfl ?_ ?_; rotate_left; intro b)
      | refine VY_len rfl rfl ?_ ?_
      | refine VY_lenr rfl rfl ?_ ?_
      | refine VY_iad rfl rfl rfl ?_ ?_ ?_
      | refine VY_call rfl (by first | fail | exact new_ok _ _ | exact grant_ok _ _ _ _ | exact local_ok _ _ _ | exact around_ok _ _ (by omega) (by omega) | exact few80_ok _ _ | exact example_ok) ?_ ?_
      | refine VY_callv rfl rfl (by rfl) (by first | fail | exact new_ok _ _ | exact grant_ok _ _ _ _ | exact local_ok _ _ _ | exact around_ok _ _ (by omega) (by omega) | exact few80_ok _ _ | exact example_ok) ?_ ?_
      | refine VY_det rfl ?_ ?_
      | refine VY_ld1 rfl (by first | rfl | exact hσ | exact lkt_same hσ | exact lkt_same (lkt_same hσ) | fail) ?_ (by first | fail | exact WC_g | exact WC_c (by omega) | exact WC_o (by omega) (by omega) | exact WC_sg | exact WC_sc (by omega) | exact WC_so (by omega) (by omega)) (by rfl) ?_ ?_
      | refine VY_lda rfl (by first | rfl | exact hσ | exact lkt_same hσ | exact lkt_same (lkt_same hσ) | fail) ?_ (by first | fail | exact WC_g | exact WC_c (by omega) | exact WC_o (by omega) (by omega) | exact WC_sg | exact WC_sc (by omega) | exact WC_so (by omega) (by omega)) (by rfl) ?_ ?_
      | refine VY_st rfl rfl (by first | rfl | exact hσ | exact lkt_same hσ | exact lkt_same (lkt_same hσ) | fail) ?_ (by rfl) (by first | fail | exact WC_g | exact WC_c (by omega) | exact WC_o (by omega) (by omega) | exact WC_sg | exact WC_sc (by omega) | exact WC_so (by omega) (by omega)) (by rfl) ?_ ?_)
    | (show List.all _ _ = true; rfl)
    | (show (_ : Nat) = _; rfl)
    | (show LoopW _ _ _ _ _; refine LoopW.intro rfl ?_)
    | (show retQ _ _ _ _ _; first | refine retQk_r rfl ?_ ?_ | refine retQk_n rfl ?_ ?_)
    | (show pureQ _ _ _ _ _ _; first | refine pureQk_r rfl ?_ ?_ | refine pureQk_n rfl ?_ ?_))
        any_goals (exfalso; simp at hc; done)
        refine ⟨acts.length - (i + 1), by omega, [(9, .lp 32 b9 0), (11, .sl false 5 (acts.map Act.cells)), (12, .v (.int .i64 ((i + 1 : Nat) : Int)))], _, (by rw [upS (by omega)]; repeat' (first | exact WkRL.refl _ | refine WkRL.cons ?_ ?_ | exact Wk.refl _ | exact WkL.nil | refine WkL.cons ?_ ?_ | refine Wk.tup ?_ | refine Wk.agg ?_ | exact Wk.nil | exact Wk.sl | exact Wk.own _ | exact Wk.tag)), ?_, i + 1, by omega, rfl, _, _, _, hI, rfl, rfl⟩
        repeat' (first | exact Sub.refl _ | refine Sub.same ?_ | refine Sub.cons ?_)
      · obtain ⟨h, _⟩ := hR; cases h
    · have hI := hG.jumpI (w := IntKind.i64.wrap (1 + (acts.getD (i : Int).toNat default).w % 8)) (j := (acts.getD (i : Int).toNat default).jump % 20) (by omega) (by omega) (by omega) (by omega)
      have hlt : i < acts.length := by have h := ‹decide ((i : Int) < (acts.length : Int)) = true›; simpa using h
      clear hc
      refine VX_spec rfl (excl_ok rfl hI.excl) OB.nil (fun x σ' hR => ?_) (fun ch σ' hR => ?_)
      · obtain ⟨h, rfl⟩ := hR; cases h
        repeat' (first
    | (show OB _; first | exact OB.nil | refine OB.rfl ?_ | refine OB.tr ?_ | refine OB.grfl ?_ | refine OB.gtr ?_ | refine OB.self ?_ | refine OB.and ?_ | refine OB.cons ?_ ?_)
    | (show FK _ _ _ _ _ _ _ _; first | refine FK_seq ?_ | refine FK_blk ?_ | refine FK_fn ?_ | refine FK_nil ?_)
    | (show WK _ _ _ _ _ _ _ _; first
      | refine WK_keep rfl ?_
      | refine WK_seq ?_
      | refine WK_reg rfl ?_
      | refine WK_mreg rfl ?_
      | (refine WK_dregS 95 rfl rfl rfl ?_)
      | refine WK_dreg rfl ?_
      | refine WK_block ?_
      | refine WK_ret ?_
      | refine WK_exit rfl ?_
      | refine WK_skip ?_
      | (refine WK_cond rfl ?_ ?_ <;> first | with_reducible exact skipTF | with_reducible exact skipFT | intro hc))
    | (show VX _ _ _ _ _ _ _; first
      | refine VX_run rfl rfl ?_ ?_
      | refine VX_nil ?_
      | (refine VX_alloc rfl ?_; intro b)
      | (refine VX_box rfl rfl ?_ ?_; rotate_left; intro b)
      | (refine VX_len rfl rfl ?_ ?_; rotate_left; intro hlen)
      | (refine VX_lenr rfl rfl ?_ ?_; rotate_left; intro hlen)
      | refine VX_iad rfl rfl rfl ?_ ?_ ?_
      | refine VX_slh rfl rfl rfl ?_ ?_ ?_
      | refine VX_sll rfl rfl rfl ?_ ?_ ?_
      | refine VX_slb rfl rfl rfl rfl ?_ ?_ ?_
      | (refine VX_mk0 rfl (by decide) ?_; intro b)
      | (refine VX_app0 rfl rfl ?_ ?_ ?_ (fun b u c => ?_))
      | (refine VX_app rfl rfl rfl ?_ ?_ ?_ (fun b u c => ?_))
      | refine VX_call rfl (by first | fail | exact new_ok _ _ | exact grant_ok _ _ _ _ | exact local_ok _ _ _ | exact around_ok _ _ (by omega) (by omega) | exact few80_ok _ _ | exact example_ok) ?_ ?_
      | refine VX_callv rfl rfl (by rfl) (by first | fail | exact new_ok _ _ | exact grant_ok _ _ _ _ | exact local_ok _ _ _ | exact around_ok _ _ (by omega) (by omega) | exact few80_ok _ _ | exact example_ok) ?_ ?_
      | refine VX_det rfl ?_ ?_
      | refine VX_ld1 rfl (by first | rfl | exact hσ | exact lkt_same hσ | exact lkt_same (lkt_same hσ) | fail) ?_ (by first | fail | exact WC_g | exact WC_c (by omega) | exact WC_o (by omega) (by omega) | exact WC_sg | exact WC_sc (by omega) | exact WC_so (by omega) (by omega)) ?_ ?_
      | refine VX_lda rfl (by first | rfl | exact hσ | exact lkt_same hσ | exact lkt_same (lkt_same hσ) | fail) ?_ (by first | fail | exact WC_g | exact WC_c (by omega) | exact WC_o (by omega) (by omega) | exact WC_sg | exact WC_sc (by omega) | exact WC_so (by omega) (by omega)) ?_ ?_
      | refine VX_st rfl rfl (by first | rfl | exact hσ | exact lkt_same hσ | exact lkt_same (lkt_same hσ) | fail) ?_ (by rfl) (by first | fail | exact WC_g | exact WC_c (by omega) | exact WC_o (by omega) (by omega) | exact WC_sg | exact WC_sc (by omega) | exact WC_so (by omega) (by omega)) ?_ ?_)
    | (show VY _ _ _ _ _ _ _; first
      | refine VY_run rfl rfl ?_ ?_
      | refine VY_nil ?_
      | (refine VY_alloc rfl ?_; intro b)
      | (refine VY_box rfl rfl ?_ ?_; rotate_left; intro b)
      | refine VY_len rfl rfl ?_ ?_
      | refine VY_lenr rfl rfl ?_ ?_
      | refine VY_iad rfl rfl rfl ?_ ?_ ?_
      | refine VY_call rfl (by first | fail | exact new_ok _ _ | exact grant_ok _ _ _ _ | exact local_ok _ _ _ | exact around_ok _ _ (by omega) (by omega) | exact few80_ok _ _ | exact example_ok) ?_ ?_
      | refine VY_callv rfl rfl (by rfl) (by first | fail | exact new_ok _ _ | exact grant_ok _ _ _ _ | exact local_ok _ _ _ | exact around_ok _ _ (by omega) (by omega) | exact few80_ok _ _ | exact example_ok) ?_ ?_
      | refine VY_det rfl ?_ ?_
      | refine VY_ld1 rfl (by first | rfl | exact hσ | exact lkt_same hσ | exact lkt_same (lkt_same hσ) | fail) ?_ (by first | fail | exact WC_g | exact WC_c (by omega) | exact WC_o (by omega) (by omega) | exact WC_sg | exact WC_sc (by omega) | exact WC_so (by omega) (by omega)) (by rfl) ?_ ?_
      | refine VY_lda rfl (by first | rfl | exact hσ | exact lkt_same hσ | exact lkt_same (lkt_same hσ) | fail) ?_ (by first | fail | exact WC_g | exact WC_c (by omega) | exact WC_o (by omega) (by omega) | exact WC_sg | exact WC_sc (by omega) | exact WC_so (by omega) (by omega)) (by rfl) ?_ ?_
      | refine VY_st rfl rfl (by first | rfl | exact hσ | exact lkt_same hσ | exact lkt_same (lkt_same hσ) | fail) ?_ (by rfl) (by first | fail | exact WC_g | exact WC_c (by omega) | exact WC_o (by omega) (by omega) | exact WC_sg | exact WC_sc (by omega) | exact WC_so (by omega) (by omega)) (by rfl) ?_ ?_)
    | (show List.all _ _ = true; rfl)
    | (show (_ : Nat) = _; rfl)
    | (show LoopW _ _ _ _ _; refine LoopW.intro rfl ?_)
    | (show retQ _ _ _ _ _; first | refine retQk_r rfl ?_ ?_ | refine retQk_n rfl ?_ ?_)
    | (show pureQ _ _ _ _ _ _; first | refine pureQk_r rfl ?_ ?_ | refine pureQk_n rfl ?_ ?_))
        any_goals (exfalso; simp at hc; done)
        refine ⟨acts.length - (i + 1), by omega, [(9, .lp 32 b9 0), (11, .sl false 5 (acts.map Act.cells)), (12, .v (.int .i64 ((i + 1 : Nat) : Int)))], _, (by rw [upS (by omega)]; repeat' (first | exact WkRL.refl _ | refine WkRL.cons ?_ ?_ | exact Wk.refl _ | exact WkL.nil | refine WkL.cons ?_ ?_ | refine Wk.tup ?_ | refine Wk.agg ?_ | exact Wk.nil | exact Wk.sl | exact Wk.own _ | exact Wk.tag)), ?_, i + 1, by omega, rfl, _, _, _, hI, rfl, rfl⟩
        repeat' (first | exact Sub.refl _ | refine Sub.same ?_ | refine Sub.cons ?_)
      · obtain ⟨h, _⟩ := hR; cases h
    · exact Sx.Fin.intro (by repeat' (first | exact Sub.refl _ | refine Sub.same ?_ | refine Sub.cons ?_)) rfl
end Go.Proofs.Ytcibmkacgfhnkaa
