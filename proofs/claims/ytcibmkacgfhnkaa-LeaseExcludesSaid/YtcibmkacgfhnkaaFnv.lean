/- The states of a grantor: which are valid. -/
import Derived.Test.YtcibmkacgfhnkaaFns
set_option linter.unusedSimpArgs false
set_option linter.unusedVariables false
namespace Go.Proofs.Ytcibmkacgfhnkaa
open Go.Sx Go.Proofs

structure St where
  now : Int
  len : Int
  drift : Int
  last : List Lease
deriving DecidableEq, Inhabited

def St.cells (s : St) : List AV := [.v (.int .i64 s.now), .v (.int .i64 s.len), .v (.int .i64 s.drift), .sl false 5 (s.last.map Lease.cells)]

/-- Each lease is over by lim, and the ranges go up. -/
def Ord (lim : Int) (ls : List Lease) : Prop := (∀ x ∈ ls, x.t ≤ lim) ∧ ls.Pairwise (fun a b => a.r < b.r)
instance (lim : Int) (ls : List Lease) : Decidable (Ord lim ls) := inferInstanceAs (Decidable (_ ∧ _))

def St.Num (s : St) : Prop := Tick s.now ∧ 1 ≤ s.len ∧ Tick s.len ∧ 0 ≤ s.drift ∧ s.drift ≤ 500
instance (s : St) : Decidable s.Num := inferInstanceAs (Decidable (_ ∧ _))
def St.Valid (s : St) : Prop := s.Num ∧ AllOwn s.last ∧ Ord (s.now + s.len) s.last
instance (s : St) : Decidable s.Valid := inferInstanceAs (Decidable (_ ∧ _))

theorem Ord.take {lim : Int} {ls : List Lease} (h : Ord lim ls) (n : Nat) : Ord lim (ls.take n) := ⟨fun x hx => h.1 x (List.mem_of_mem_take hx), h.2.sublist (List.take_sublist _ _)⟩
/-- One lease more. -/
theorem Ord.step {lim : Int} {ls : List Lease} {i : Nat} (h : Ord lim (ls.take i)) (hi : i < ls.length) (ht : (ls.getD i default).t ≤ lim) (hp : 0 < i → (ls.getD (i - 1) default).r < (ls.getD i default).r) : Ord lim (ls.take (i + 1)) := by
  rw [take_get hi]
  refine ⟨fun x hx => ?_, ?_⟩
  · rcases List.mem_append.1 hx with hx | hx
    · exact h.1 x hx
    · rw [List.mem_singleton.1 hx]; exact ht
  · rw [List.pairwise_append]
    refine ⟨h.2, List.pairwise_singleton _ _, fun x hx y hy => ?_⟩
    rw [List.mem_singleton.1 hy]
    cases i with
    | zero => simp at hx
    | succ j =>
      have hj : j < ls.length := by omega
      have hl := hp (by omega)
      rw [Nat.add_sub_cancel] at hl
      rw [take_get hj] at hx
      rcases List.mem_append.1 hx with hx | hx
      · have := h.2
        rw [take_get hj, List.pairwise_append] at this
        have := this.2.2 x hx _ (List.mem_singleton.2 rfl)
        omega
      · rw [List.mem_singleton.1 hx]; exact hl
theorem Ord.lim_of {lim : Int} {ls : List Lease} {i : Nat} (h : Ord lim ls) (hi : i < ls.length) : (ls.getD i default).t ≤ lim := h.1 _ (getD_mem hi)
theorem Ord.lt_of {lim : Int} {ls : List Lease} {i j : Nat} (h : Ord lim ls) (hi : i < ls.length) (hji : j < i) : (ls.getD j default).r < (ls.getD i default).r := by
  rw [getD_eq hi, getD_eq (Nat.lt_trans hji hi)]
  exact List.pairwise_iff_getElem.1 h.2 _ _ _ _ hji

theorem valid_ok (s : St) : Pure Try.prog 26 [.agg s.cells] (.v (.bool (decide s.Valid))) := by
  refine Pure.runk (fun _ => 0) Try.func26 comp26 era26 (by simp [c26]) fun σ => ?_
  repeat' (first
    | (show OB _; first | exact OB.nil | refine OB.rfl ?_ | refine OB.tr ?_ | refine OB.grfl ?_ | refine OB.gtr ?_ | refine OB.self ?_ | refine OB.and ?_ | refine OB.cons ?_ ?_)
    | (show FK _ _ _ _ _ _ _ _; first | refine FK_seq ?_ | refine FK_blk ?_ | refine FK_fn ?_ | refine FK_nil ?_)
    | (show WK _ _ _ _ _ _ _ _; first
      | refine WK_keep rfl ?_
      | refine WK_seq ?_
      | refine WK_reg rfl ?_
      | refine WK_mreg rfl ?_
      | (fail)
      | refine WK_dreg rfl ?_
      | refine WK_block ?_
      | refine WK_ret ?_
      | refine WK_exit rfl ?_
      | refine WK_skip ?_
      | (refine WK_cond rfl ?_ ?_ <;> first | with_reducible exact skipTF | with_reducible exact skipFT | intro hc))
    | (show VX _ _ _ _ _ _ _; first
      | refine VX_run rfl rfl ?_ ?_
      | refine VX_nil ?_
      | (refine VX_alloc rfl ?_; intro b)
      | (refine VX_box rfl rfl ?_ ?_; rotate_left; intro b)
      | (refine VX_len rfl rfl ?_ ?_; rotate_left; intro hlen)
      | (refine VX_lenr rfl rfl ?_ ?_; rotate_left; intro hlen)
      | refine VX_iad rfl rfl rfl ?_ ?_ ?_
      | refine VX_slh rfl rfl rfl ?_ ?_ ?_
      | refine VX_sll rfl rfl rfl ?_ ?_ ?_
      | refine VX_slb rfl rfl rfl rfl ?_ ?_ ?_
      | (refine VX_mk0 rfl (by decide) ?_; intro b)
      | (refine VX_app0 rfl rfl ?_ ?_ ?_ (fun b u c => ?_))
      | (refine VX_app rfl rfl rfl ?_ ?_ ?_ (fun b u c => ?_))
      | refine VX_call rfl (by first | fail | exact tick_ok _ | exact tickR_ok _ | exact own_ok _ | exact ownR_ok _ | exact all_ok _) ?_ ?_
      | refine VX_callv rfl rfl (by rfl) (by first | fail | exact tick_ok _ | exact tickR_ok _ | exact own_ok _ | exact ownR_ok _ | exact all_ok _) ?_ ?_
      | refine VX_det rfl ?_ ?_
      | refine VX_ld1 rfl (by first | rfl | fail) ?_ (by first | fail | fail) ?_ ?_
      | refine VX_lda rfl (by first | rfl | fail) ?_ (by first | fail | fail) ?_ ?_
      | refine VX_st rfl rfl (by first | rfl | fail) ?_ (by rfl) (by first | fail | fail) ?_ ?_)
    | (show VY _ _ _ _ _ _ _; first
      | refine VY_run rfl rfl ?_ ?_
      | refine VY_nil ?_
      | (refine VY_alloc rfl ?_; intro b)
      | (refine VY_box rfl rfl ?_ ?_; rotate_left; intro b)
      | refine VY_len rfl rfl ?_ ?_
      | refine VY_lenr rfl rfl ?_ ?_
      | refine VY_iad rfl rfl rfl ?_ ?_ ?_
      | refine VY_call rfl (by first | fail | exact tick_ok _ | exact tickR_ok _ | exact own_ok _ | exact ownR_ok _ | exact all_ok _) ?_ ?_
      | refine VY_callv rfl rfl (by rfl) (by first | fail | exact tick_ok _ | exact tickR_ok _ | exact own_ok _ | exact ownR_ok _ | exact all_ok _) ?_ ?_
      | refine VY_det rfl ?_ ?_
      | refine VY_ld1 rfl (by first | rfl | fail) ?_ (by first | fail | fail) (by rfl) ?_ ?_
      | refine VY_lda rfl (by first | rfl | fail) ?_ (by first | fail | fail) (by rfl) ?_ ?_
      | refine VY_st rfl rfl (by first | rfl | fail) ?_ (by rfl) (by first | fail | fail) (by rfl) ?_ ?_)
    | (show List.all _ _ = true; rfl)
    | (show (_ : Nat) = _; rfl)
    | (show LoopW _ _ _ _ _; refine LoopW.intro rfl ?_)
    | (show retQ _ _ _ _ _; first | refine retQk_r rfl ?_ ?_ | refine retQk_n rfl ?_ ?_)
    | (show pureQ _ _ _ _ _ _; first | refine pureQk_r rfl ?_ ?_ | refine pureQk_n rfl ?_ ?_))
  any_goals (intro hob;  first | (simp_all; done) | (simp only [decide_eq_true_eq, decide_eq_false_iff_not, Bool.not_true, Bool.not_false, Bool.not_eq_true', Bool.not_eq_false', Bool.and_eq_true, Bool.or_eq_true, Bool.and_eq_false_iff, Bool.or_eq_false_iff, Bool.true_and, Bool.and_true, Bool.false_or, Bool.or_false, Option.getD_some, Option.getD_none, forall_const, true_implies, ne_eq, eq_self, Int.toNat_natCast, Bool.xor_true, Bool.xor_false] at *; simp_all; done) | (simp only [decide_eq_true_eq, decide_eq_false_iff_not, Bool.not_true, Bool.not_false, Bool.not_eq_true', Bool.not_eq_false', Bool.and_eq_true, Bool.or_eq_true, Bool.and_eq_false_iff, Bool.or_eq_false_iff, Bool.true_and, Bool.and_true, Bool.false_or, Bool.or_false, Option.getD_some, Option.getD_none, forall_const, true_implies, ne_eq, eq_self, Int.toNat_natCast, Bool.xor_true, Bool.xor_false] at *; omega))
  all_goals (try simp only [decide_eq_true_eq, decide_eq_false_iff_not, Bool.not_true, Bool.not_false, Bool.not_eq_true', Bool.not_eq_false', Bool.and_eq_true, Bool.or_eq_true, Bool.and_eq_false_iff, Bool.or_eq_false_iff, Bool.true_and, Bool.and_true, Bool.false_or, Bool.or_false, Option.getD_some, Option.getD_none, forall_const, true_implies, ne_eq, eq_self, Int.toNat_natCast, Bool.xor_true, Bool.xor_false] at *)
  · refine Sx.Fin.intro (by repeat' (first | exact Sub.refl _ | refine Sub.same ?_ | refine Sub.cons ?_)) (bf ?_)
    rintro ⟨h1, h2, _⟩
    rcases hc with hc | hc
    · simp only [Tick, Lease.Own, St.Num] at *; omega
    · exact hc h2
  refine WK_loop (fun n rg σ' => ∃ i : Nat, i ≤ s.last.length ∧ n = s.last.length - i ∧ Ord (s.now + s.len) (s.last.take i) ∧ σ' = (1, b, .cells s.cells) :: σ ∧ rg = [(1, .lp 1 b 0), (37, .v (.int .i64 s.last.length)), (38, .v (.int .i64 i))]) s.last.length rfl ⟨_, _, by repeat' (first | exact WkRL.refl _ | refine WkRL.cons ?_ ?_ | exact Wk.refl _ | exact WkL.nil | refine WkL.cons ?_ ?_ | refine Wk.tup ?_ | refine Wk.agg ?_ | exact Wk.nil | exact Wk.sl | exact Wk.own _ | exact Wk.tag), by repeat' (first | exact Sub.refl _ | refine Sub.same ?_ | refine Sub.cons ?_), 0, Nat.zero_le _, rfl, by simp [Ord], rfl, rfl⟩ ?_
  rintro n _ _ ⟨i, hi, hn, hp, rfl, rfl⟩
  repeat' (first
    | (show OB _; first | exact OB.nil | refine OB.rfl ?_ | refine OB.tr ?_ | refine OB.grfl ?_ | refine OB.gtr ?_ | refine OB.self ?_ | refine OB.and ?_ | refine OB.cons ?_ ?_)
    | (show FK _ _ _ _ _ _ _ _; first | refine FK_seq ?_ | refine FK_blk ?_ | refine FK_fn ?_ | refine FK_nil ?_)
    | (show WK _ _ _ _ _ _ _ _; first
      | refine WK_keep rfl ?_
      | refine WK_seq ?_
      | refine WK_reg rfl ?_
      | refine WK_mreg rfl ?_
      | (fail)
      | refine WK_dreg rfl ?_
      | refine WK_block ?_
      | refine WK_ret ?_
      | refine WK_exit rfl ?_
      | refine WK_skip ?_
      | (refine WK_cond rfl ?_ ?_ <;> first | with_reducible exact skipTF | with_reducible exact skipFT | intro hc))
    | (show VX _ _ _ _ _ _ _; first
      | refine VX_run rfl rfl ?_ ?_
      | refine VX_nil ?_
      | (refine VX_alloc rfl ?_; intro b)
      | (refine VX_box rfl rfl ?_ ?_; rotate_left; intro b)
      | (refine VX_len rfl rfl ?_ ?_; rotate_left; intro hlen)
      | (refine VX_lenr rfl rfl ?_ ?_; rotate_left; intro hlen)
      | refine VX_iad rfl rfl rfl ?_ ?_ ?_
      | refine VX_slh rfl rfl rfl ?_ ?_ ?_
      | refine VX_sll rfl rfl rfl ?_ ?_ ?_
      | refine VX_slb rfl rfl rfl rfl ?_ ?_ ?_
      | (refine VX_mk0 rfl (by decide) ?_; intro b)
      | (refine VX_app0 rfl rfl ?_ ?_ ?_ (fun b u c => ?_))
      | (refine VX_app rfl rfl rfl ?_ ?_ ?_ (fun b u c => ?_))
      | refine VX_call rfl (by first | fail | exact tick_ok _ | exact tickR_ok _ | exact own_ok _ | exact ownR_ok _ | exact all_ok _) ?_ ?_
      | refine VX_callv rfl rfl (by rfl) (by first | fail | exact tick_ok _ | exact tickR_ok _ | exact own_ok _ | exact ownR_ok _ | exact all_ok _) ?_ ?_
      | refine VX_det rfl ?_ ?_
      | refine VX_ld1 rfl (by first | rfl | fail) ?_ (by first | fail | fail) ?_ ?_
      | refine VX_lda rfl (by first | rfl | fail) ?_ (by first | fail | fail) ?_ ?_
      | refine VX_st rfl rfl (by first | rfl | fail) ?_ (by rfl) (by first | fail | fail) ?_ ?_)
    | (show VY _ _ _ _ _ _ _; first
      | refine VY_run rfl rfl ?_ ?_
      | refine VY_nil ?_
      | (refine VY_alloc rfl ?_; intro b)
      | (refine VY_box rfl rfl ?_ ?_; rotate_left; intro b)
      | refine VY_len rfl rfl ?_ ?_
      | refine VY_lenr rfl rfl ?_ ?_
      | refine VY_iad rfl rfl rfl ?_ ?_ ?_
      | refine VY_call rfl (by first | fail | exact tick_ok _ | exact tickR_ok _ | exact own_ok _ | exact ownR_ok _ | exact all_ok _) ?_ ?_
      | refine VY_callv rfl rfl (by rfl) (by first | fail | exact tick_ok _ | exact tickR_ok _ | exact own_ok _ | exact ownR_ok _ | exact all_ok _) ?_ ?_
      | refine VY_det rfl ?_ ?_
      | refine VY_ld1 rfl (by first | rfl | fail) ?_ (by first | fail | fail) (by rfl) ?_ ?_
      | refine VY_lda rfl (by first | rfl | fail) ?_ (by first | fail | fail) (by rfl) ?_ ?_
      | refine VY_st rfl rfl (by first | rfl | fail) ?_ (by rfl) (by first | fail | fail) (by rfl) ?_ ?_)
    | (show List.all _ _ = true; rfl)
    | (show (_ : Nat) = _; rfl)
    | (show LoopW _ _ _ _ _; refine LoopW.intro rfl ?_)
    | (show retQ _ _ _ _ _; first | refine retQk_r rfl ?_ ?_ | refine retQk_n rfl ?_ ?_)
    | (show pureQ _ _ _ _ _ _; first | refine pureQk_r rfl ?_ ?_ | refine pureQk_n rfl ?_ ?_))
  any_goals (intro hob;  first | (simp_all; done) | (simp only [decide_eq_true_eq, decide_eq_false_iff_not, Bool.not_true, Bool.not_false, Bool.not_eq_true', Bool.not_eq_false', Bool.and_eq_true, Bool.or_eq_true, Bool.and_eq_false_iff, Bool.or_eq_false_iff, Bool.true_and, Bool.and_true, Bool.false_or, Bool.or_false, Option.getD_some, Option.getD_none, forall_const, true_implies, ne_eq, eq_self, Int.toNat_natCast, Bool.xor_true, Bool.xor_false] at *; simp_all; done) | (simp only [decide_eq_true_eq, decide_eq_false_iff_not, Bool.not_true, Bool.not_false, Bool.not_eq_true', Bool.not_eq_false', Bool.and_eq_true, Bool.or_eq_true, Bool.and_eq_false_iff, Bool.or_eq_false_iff, Bool.true_and, Bool.and_true, Bool.false_or, Bool.or_false, Option.getD_some, Option.getD_none, forall_const, true_implies, ne_eq, eq_self, Int.toNat_natCast, Bool.xor_true, Bool.xor_false] at *; omega))
  all_goals (try simp only [decide_eq_true_eq, decide_eq_false_iff_not, Bool.not_true, Bool.not_false, Bool.not_eq_true', Bool.not_eq_false', Bool.and_eq_true, Bool.or_eq_true, Bool.and_eq_false_iff, Bool.or_eq_false_iff, Bool.true_and, Bool.and_true, Bool.false_or, Bool.or_false, Option.getD_some, Option.getD_none, forall_const, true_implies, ne_eq, eq_self, Int.toNat_natCast, Bool.xor_true, Bool.xor_false] at *)
  all_goals (have hN : s.Num := by simp only [Tick, Lease.Own, St.Num] at *; omega)
  all_goals (have hw : IntKind.i64.wrap (s.now + s.len) = s.now + s.len := i64w (by simp only [Tick, Lease.Own, St.Num] at hN; omega))
  all_goals (simp only [hw] at *)
  · refine Sx.Fin.intro (by repeat' (first | exact Sub.refl _ | refine Sub.same ?_ | refine Sub.cons ?_)) (bf ?_)
    rintro ⟨_, _, hO⟩
    rcases hc with hc | ⟨h0, hc⟩
    · have := hO.lim_of (i := i) (by omega); omega
    · rw [pred1 (by omega) (by omega), Int.toNat_natCast] at hc
      have := hO.lt_of (i := i) (j := i - 1) (by omega) (by omega)
      omega
  · refine ⟨s.last.length - (i + 1), by omega, _, _, by repeat' (first | exact WkRL.refl _ | refine WkRL.cons ?_ ?_ | exact Wk.refl _ | exact WkL.nil | refine WkL.cons ?_ ?_ | refine Wk.tup ?_ | refine Wk.agg ?_ | exact Wk.nil | exact Wk.sl | exact Wk.own _ | exact Wk.tag), by repeat' (first | exact Sub.refl _ | refine Sub.same ?_ | refine Sub.cons ?_), i + 1, by omega, rfl, hp.step (by omega) (by omega) (fun h0 => ?_), by rfl, by rw [up1 (by omega) hlen]⟩
    rw [pred1 (by omega) (by omega), Int.toNat_natCast] at hc
    omega
  · rintro ⟨_, h0⟩
    rw [pred1 (by omega) (by omega)]
    omega
  · refine Sx.Fin.intro (by repeat' (first | exact Sub.refl _ | refine Sub.same ?_ | refine Sub.cons ?_)) (bt ?_)
    rename_i h1
    have : s.last.take i = s.last := List.take_of_length_le (by omega)
    rw [this] at hp
    exact ⟨hN, h1.2, hp⟩

theorem AllOwn_take {ls : List Lease} {i : Nat} (h : AllOwn (ls.take i)) (hi : i < ls.length) (ho : (ls.getD i default).Own) : AllOwn (ls.take (i + 1)) := by
  rw [take_get hi]
  intro x hx
  rcases List.mem_append.1 hx with hx | hx
  · exact h x hx
  · rw [List.mem_singleton.1 hx]; exact ho

theorem stateR_ok (s : St) : Pure Try.prog 27 [.agg s.cells] (.v (.bool (decide s.Valid))) := by
  refine Pure.runk (fun _ => 0) Try.func27 comp27 era27 (by simp [c27]) fun σ => ?_
  repeat' (first
    | (show OB _; first | exact OB.nil | refine OB.rfl ?_ | refine OB.tr ?_ | refine OB.grfl ?_ | refine OB.gtr ?_ | refine OB.self ?_ | refine OB.and ?_ | refine OB.cons ?_ ?_)
    | (show FK _ _ _ _ _ _ _ _; first | refine FK_seq ?_ | refine FK_blk ?_ | refine FK_fn ?_ | refine FK_nil ?_)
    | (show WK _ _ _ _ _ _ _ _; first
      | refine WK_keep rfl ?_
      | refine WK_seq ?_
      | refine WK_reg rfl ?_
      | refine WK_mreg rfl ?_
      | (fail)
      | refine WK_dreg rfl ?_
      | refine WK_block ?_
      | refine WK_ret ?_
      | refine WK_exit rfl ?_
      | refine WK_skip ?_
      | (refine WK_cond rfl ?_ ?_ <;> first | with_reducible exact skipTF | with_reducible exact skipFT | intro hc))
    | (show VX _ _ _ _ _ _ _; first
      | refine VX_run rfl rfl ?_ ?_
      | refine VX_nil ?_
      | (refine VX_alloc rfl ?_; intro b)
      | (refine VX_box rfl rfl ?_ ?_; rotate_left; intro b)
      | (refine VX_len rfl rfl ?_ ?_; rotate_left; intro hlen)
      | (refine VX_lenr rfl rfl ?_ ?_; rotate_left; intro hlen)
      | refine VX_iad rfl rfl rfl ?_ ?_ ?_
      | refine VX_slh rfl rfl rfl ?_ ?_ ?_
      | refine VX_sll rfl rfl rfl ?_ ?_ ?_
      | refine VX_slb rfl rfl rfl rfl ?_ ?_ ?_
      | (refine VX_mk0 rfl (by decide) ?_; intro b)
      | (refine VX_app0 rfl rfl ?_ ?_ ?_ (fun b u c => ?_))
      | (refine VX_app rfl rfl rfl ?_ ?_ ?_ (fun b u c => ?_))
      | refine VX_call rfl (by first | fail | exact tick_ok _ | exact tickR_ok _ | exact own_ok _ | exact ownR_ok _ | exact all_ok _) ?_ ?_
      | refine VX_callv rfl rfl (by rfl) (by first | fail | exact tick_ok _ | exact tickR_ok _ | exact own_ok _ | exact ownR_ok _ | exact all_ok _) ?_ ?_
      | refine VX_det rfl ?_ ?_
      | refine VX_ld1 rfl (by first | rfl | fail) ?_ (by first | fail | fail) ?_ ?_
      | refine VX_lda rfl (by first | rfl | fail) ?_ (by first | fail | fail) ?_ ?_
      | refine VX_st rfl rfl (by first | rfl | fail) ?_ (by rfl) (by first | fail | fail) ?_ ?_)
    | (show VY _ _ _ _ _ _ _; first
      | refine VY_run rfl rfl ?_ ?_
      | refine VY_nil ?_
      | (refine VY_alloc rfl ?_; intro b)
      | (refine VY_box rfl rfl ?_ ?_; rotate_left; intro b)
      | refine VY_len rfl rfl ?_ ?_
      | refine VY_lenr rfl rfl ?_ ?_
      | refine VY_iad rfl rfl rfl ?_ ?_ ?_
      | refine VY_call rfl (by first | fail | exact tick_ok _ | exact tickR_ok _ | exact own_ok _ | exact ownR_ok _ | exact all_ok _) ?_ ?_
      | refine VY_callv rfl rfl (by rfl) (by first | fail | exact tick_ok _ | exact tickR_ok _ | exact own_ok _ | exact ownR_ok _ | exact all_ok _) ?_ ?_
      | refine VY_det rfl ?_ ?_
      | refine VY_ld1 rfl (by first | rfl | fail) ?_ (by first | fail | fail) (by rfl) ?_ ?_
      | refine VY_lda rfl (by first | rfl | fail) ?_ (by first | fail | fail) (by rfl) ?_ ?_
      | refine VY_st rfl rfl (by first | rfl | fail) ?_ (by rfl) (by first | fail | fail) (by rfl) ?_ ?_)
    | (show List.all _ _ = true; rfl)
    | (show (_ : Nat) = _; rfl)
    | (show LoopW _ _ _ _ _; refine LoopW.intro rfl ?_)
    | (show retQ _ _ _ _ _; first | refine retQk_r rfl ?_ ?_ | refine retQk_n rfl ?_ ?_)
    | (show pureQ _ _ _ _ _ _; first | refine pureQk_r rfl ?_ ?_ | refine pureQk_n rfl ?_ ?_))
  any_goals (intro hob;  first | (simp_all; done) | (simp only [decide_eq_true_eq, decide_eq_false_iff_not, Bool.not_true, Bool.not_false, Bool.not_eq_true', Bool.not_eq_false', Bool.and_eq_true, Bool.or_eq_true, Bool.and_eq_false_iff, Bool.or_eq_false_iff, Bool.true_and, Bool.and_true, Bool.false_or, Bool.or_false, Option.getD_some, Option.getD_none, forall_const, true_implies, ne_eq, eq_self, Int.toNat_natCast, Bool.xor_true, Bool.xor_false] at *; simp_all; done) | (simp only [decide_eq_true_eq, decide_eq_false_iff_not, Bool.not_true, Bool.not_false, Bool.not_eq_true', Bool.not_eq_false', Bool.and_eq_true, Bool.or_eq_true, Bool.and_eq_false_iff, Bool.or_eq_false_iff, Bool.true_and, Bool.and_true, Bool.false_or, Bool.or_false, Option.getD_some, Option.getD_none, forall_const, true_implies, ne_eq, eq_self, Int.toNat_natCast, Bool.xor_true, Bool.xor_false] at *; omega))
  all_goals (try simp only [decide_eq_true_eq, decide_eq_false_iff_not, Bool.not_true, Bool.not_false, Bool.not_eq_true', Bool.not_eq_false', Bool.and_eq_true, Bool.or_eq_true, Bool.and_eq_false_iff, Bool.or_eq_false_iff, Bool.true_and, Bool.and_true, Bool.false_or, Bool.or_false, Option.getD_some, Option.getD_none, forall_const, true_implies, ne_eq, eq_self, Int.toNat_natCast, Bool.xor_true, Bool.xor_false] at *)
  · refine Sx.Fin.intro (by repeat' (first | exact Sub.refl _ | refine Sub.same ?_ | refine Sub.cons ?_)) (bf ?_)
    rintro ⟨h1, h2, _⟩
    simp only [Tick, Lease.Own, St.Num] at *; omega
  have hN : s.Num := by simp only [Tick, Lease.Own, St.Num] at *; omega
  have hw : IntKind.i64.wrap (s.now + s.len) = s.now + s.len := i64w (by simp only [Tick, Lease.Own, St.Num] at hN; omega)
  refine WK_loop (fun n rg σ' => ∃ i : Nat, i ≤ s.last.length ∧ n = s.last.length - i ∧ AllOwn (s.last.take i) ∧ Ord (s.now + s.len) (s.last.take i) ∧ σ' = (1, b, .cells s.cells) :: σ ∧ rg = [(1, .lp 1 b 0), (3, .v (.int .i64 i))]) s.last.length rfl ⟨_, _, by repeat' (first | exact WkRL.refl _ | refine WkRL.cons ?_ ?_ | exact Wk.refl _ | exact WkL.nil | refine WkL.cons ?_ ?_ | refine Wk.tup ?_ | refine Wk.agg ?_ | exact Wk.nil | exact Wk.sl | exact Wk.own _ | exact Wk.tag), by repeat' (first | exact Sub.refl _ | refine Sub.same ?_ | refine Sub.cons ?_), 0, Nat.zero_le _, rfl, by simp [AllOwn], by simp [Ord], rfl, rfl⟩ ?_
  rintro n _ _ ⟨i, hi, hn, hp1, hp, rfl, rfl⟩
  repeat' (first
    | (show OB _; first | exact OB.nil | refine OB.rfl ?_ | refine OB.tr ?_ | refine OB.grfl ?_ | refine OB.gtr ?_ | refine OB.self ?_ | refine OB.and ?_ | refine OB.cons ?_ ?_)
    | (show FK _ _ _ _ _ _ _ _; first | refine FK_seq ?_ | refine FK_blk ?_ | refine FK_fn ?_ | refine FK_nil ?_)
    | (show WK _ _ _ _ _ _ _ _; first
      | refine WK_keep rfl ?_
      | refine WK_seq ?_
      | refine WK_reg rfl ?_
      | refine WK_mreg rfl ?_
      | (fail)
      | refine WK_dreg rfl ?_
      | refine WK_block ?_
      | refine WK_ret ?_
      | refine WK_exit rfl ?_
      | refine WK_skip ?_
      | (refine WK_cond rfl ?_ ?_ <;> first | with_reducible exact skipTF | with_reducible exact skipFT | intro hc))
    | (show VX _ _ _ _ _ _ _; first
      | refine VX_run rfl rfl ?_ ?_
      | refine VX_nil ?_
      | (refine VX_alloc rfl ?_; intro b)
      | (refine VX_box rfl rfl ?_ ?_; rotate_left; intro b)
      | (refine VX_len rfl rfl ?_ ?_; rotate_left; intro hlen)
      | (refine VX_lenr rfl rfl ?_ ?_; rotate_left; intro hlen)
      | refine VX_iad rfl rfl rfl ?_ ?_ ?_
      | refine VX_slh rfl rfl rfl ?_ ?_ ?_
      | refine VX_sll rfl rfl rfl ?_ ?_ ?_
      | refine VX_slb rfl rfl rfl rfl ?_ ?_ ?_
      | (refine VX_mk0 rfl (by decide) ?_; intro b)
      | (refine VX_app0 rfl rfl ?_ ?_ ?_ (fun b u c => ?_))
      | (refine VX_app rfl rfl rfl ?_ ?_ ?_ (fun b u c => ?_))
      | refine VX_call rfl (by first | fail | exact tick_ok _ | exact tickR_ok _ | exact own_ok _ | exact ownR_ok _ | exact all_ok _) ?_ ?_
      | refine VX_callv rfl rfl (by rfl) (by first | fail | exact tick_ok _ | exact tickR_ok _ | exact own_ok _ | exact ownR_ok _ | exact all_ok _) ?_ ?_
      | refine VX_det rfl ?_ ?_
      | refine VX_ld1 rfl (by first | rfl | fail) ?_ (by first | fail | fail) ?_ ?_
      | refine VX_lda rfl (by first | rfl | fail) ?_ (by first | fail | fail) ?_ ?_
      | refine VX_st rfl rfl (by first | rfl | fail) ?_ (by rfl) (by first | fail | fail) ?_ ?_)
    | (show VY _ _ _ _ _ _ _; first
      | refine VY_run rfl rfl ?_ ?_
      | refine VY_nil ?_
      | (refine VY_alloc rfl ?_; intro b)
      | (refine VY_box rfl rfl ?_ ?_; rotate_left; intro b)
      | refine VY_len rfl rfl ?_ ?_
      | refine VY_lenr rfl rfl ?_ ?_
      | refine VY_iad rfl rfl rfl ?_ ?_ ?_
      | refine VY_call rfl (by first | fail | exact tick_ok _ | exact tickR_ok _ | exact own_ok _ | exact ownR_ok _ | exact all_ok _) ?_ ?_
      | refine VY_callv rfl rfl (by rfl) (by first | fail | exact tick_ok _ | exact tickR_ok _ | exact own_ok _ | exact ownR_ok _ | exact all_ok _) ?_ ?_
      | refine VY_det rfl ?_ ?_
      | refine VY_ld1 rfl (by first | rfl | fail) ?_ (by first | fail | fail) (by rfl) ?_ ?_
      | refine VY_lda rfl (by first | rfl | fail) ?_ (by first | fail | fail) (by rfl) ?_ ?_
      | refine VY_st rfl rfl (by first | rfl | fail) ?_ (by rfl) (by first | fail | fail) (by rfl) ?_ ?_)
    | (show List.all _ _ = true; rfl)
    | (show (_ : Nat) = _; rfl)
    | (show LoopW _ _ _ _ _; refine LoopW.intro rfl ?_)
    | (show retQ _ _ _ _ _; first | refine retQk_r rfl ?_ ?_ | refine retQk_n rfl ?_ ?_)
    | (show pureQ _ _ _ _ _ _; first | refine pureQk_r rfl ?_ ?_ | refine pureQk_n rfl ?_ ?_))
  any_goals (intro hob;  first | (simp_all; done) | (simp only [decide_eq_true_eq, decide_eq_false_iff_not, Bool.not_true, Bool.not_false, Bool.not_eq_true', Bool.not_eq_false', Bool.and_eq_true, Bool.or_eq_true, Bool.and_eq_false_iff, Bool.or_eq_false_iff, Bool.true_and, Bool.and_true, Bool.false_or, Bool.or_false, Option.getD_some, Option.getD_none, forall_const, true_implies, ne_eq, eq_self, Int.toNat_natCast, Bool.xor_true, Bool.xor_false] at *; simp_all; done) | (simp only [decide_eq_true_eq, decide_eq_false_iff_not, Bool.not_true, Bool.not_false, Bool.not_eq_true', Bool.not_eq_false', Bool.and_eq_true, Bool.or_eq_true, Bool.and_eq_false_iff, Bool.or_eq_false_iff, Bool.true_and, Bool.and_true, Bool.false_or, Bool.or_false, Option.getD_some, Option.getD_none, forall_const, true_implies, ne_eq, eq_self, Int.toNat_natCast, Bool.xor_true, Bool.xor_false] at *; omega))
  all_goals (try simp only [decide_eq_true_eq, decide_eq_false_iff_not, Bool.not_true, Bool.not_false, Bool.not_eq_true', Bool.not_eq_false', Bool.and_eq_true, Bool.or_eq_true, Bool.and_eq_false_iff, Bool.or_eq_false_iff, Bool.true_and, Bool.and_true, Bool.false_or, Bool.or_false, Option.getD_some, Option.getD_none, forall_const, true_implies, ne_eq, eq_self, Int.toNat_natCast, Bool.xor_true, Bool.xor_false] at *)
  all_goals (simp only [hw] at *)
  · refine Sx.Fin.intro (by repeat' (first | exact Sub.refl _ | refine Sub.same ?_ | refine Sub.cons ?_)) (bf ?_)
    rintro ⟨_, hA, hO⟩
    rcases hc with (hc | hc) | ⟨h0, hc⟩
    · exact hc (hA _ (getD_mem (by omega)))
    · have := hO.lim_of (i := i) (by omega); omega
    · rw [pred1 (by omega) (by omega), Int.toNat_natCast] at hc
      have := hO.lt_of (i := i) (j := i - 1) (by omega) (by omega)
      omega
  · refine ⟨s.last.length - (i + 1), by omega, _, _, by repeat' (first | exact WkRL.refl _ | refine WkRL.cons ?_ ?_ | exact Wk.refl _ | exact WkL.nil | refine WkL.cons ?_ ?_ | refine Wk.tup ?_ | refine Wk.agg ?_ | exact Wk.nil | exact Wk.sl | exact Wk.own _ | exact Wk.tag), by repeat' (first | exact Sub.refl _ | refine Sub.same ?_ | refine Sub.cons ?_), i + 1, by omega, rfl, AllOwn_take hp1 (by omega) hc.1.1, hp.step (by omega) (by omega) (fun h0 => ?_), by rfl, by rw [up1 (by omega) hlen]⟩
    have hc := hc.2
    rw [pred1 (by omega) (by omega), Int.toNat_natCast] at hc
    omega
  · rintro ⟨_, h0⟩
    rw [pred1 (by omega) (by omega)]
    omega
  · refine Sx.Fin.intro (by repeat' (first | exact Sub.refl _ | refine Sub.same ?_ | refine Sub.cons ?_)) (bt ?_)
    rename_i h1
    have : s.last.take i = s.last := List.take_of_length_le (by omega)
    rw [this] at hp hp1
    exact ⟨hN, hp1, hp⟩
end Go.Proofs.Ytcibmkacgfhnkaa
