/- Granting a lease. -/
import Derived.Test.YtcibmkacgfhnkaaFng
set_option linter.unusedSimpArgs false
set_option linter.unusedVariables false
namespace Go.Proofs.Ytcibmkacgfhnkaa
open Go.Sx Go.Proofs
def kF (ls : List Lease) (r : Int) : Nat := (ls.takeWhile (fun x => decide (x.r < r))).length
def Had (ls : List Lease) (r : Int) : Prop := kF ls r < ls.length ∧ (ls.getD (kF ls r) default).r = r
instance (ls : List Lease) (r : Int) : Decidable (Had ls r) := inferInstanceAs (Decidable (_ ∧ _))
def newX (s : St) (r w f : Int) : Lease := if Had s.last r then ⟨r, w, (s.last.getD (kF s.last r) default).e + 1, s.now + s.len, max f (s.last.getD (kF s.last r) default).f⟩ else ⟨r, w, 1, s.now + s.len, f⟩
def nextF (ls : List Lease) (r : Int) : Nat := if Had ls r then kF ls r + 1 else kF ls r
def Refused (s : St) (r w : Int) : Prop := Had s.last r ∧ (s.last.getD (kF s.last r) default).w ≠ w ∧ s.now < (s.last.getD (kF s.last r) default).t
instance (s : St) (r w : Int) : Decidable (Refused s r w) := inferInstanceAs (Decidable (_ ∧ _))
def outF (ls : List Lease) (r : Int) (x : Lease) : List Lease := ls.take (kF ls r) ++ x :: ls.drop (nextF ls r)
def grantF (s : St) (r w f : Int) : St × Lease × Int :=
  if ¬ (s.Valid ∧ (Lease.mk r w 1 0 f).Own) then (.zero, .zero, 1)
  else if Refused s r w then (.zero, .zero, 420)
  else if 1099511627776 < s.now + s.len ∨ 1099511627776 < (newX s r w f).e then (.zero, .zero, 2)
  else ({ s with last := outF s.last r (newX s r w f) }, newX s r w f, 0)

theorem kF_le (ls : List Lease) (r : Int) : kF ls r ≤ ls.length := by
  unfold kF; exact (List.takeWhile_sublist _).length_le
theorem kF_lt : ∀ {ls : List Lease} {r : Int} {j : Nat}, j < kF ls r → (ls.getD j default).r < r
  | [], r, j, h => by simp [kF] at h
  | x :: ls, r, j, h => by
    unfold kF at h
    simp only [List.takeWhile_cons] at h
    split at h
    · rename_i hx
      cases j with
      | zero => simpa using hx
      | succ j => simpa using kF_lt (ls := ls) (j := j) (by unfold kF; simpa using h)
    · simp at h
theorem kF_ge : ∀ {ls : List Lease} {r : Int}, kF ls r < ls.length → r ≤ (ls.getD (kF ls r) default).r
  | [], r, h => by simp at h
  | x :: ls, r, h => by
    unfold kF at h ⊢
    simp only [List.takeWhile_cons] at h ⊢
    split at h
    · rename_i hx
      simp only [hx, if_true, List.length_cons] at h ⊢
      have := kF_ge (ls := ls) (r := r) (by unfold kF; simpa using h)
      unfold kF at this
      simpa using this
    · rename_i hx
      simp only [hx]
      simp at hx
      simpa using hx

theorem len_le : ∀ {ls : List Lease} {lo hi : Int}, ls.Pairwise (fun a b => a.r < b.r) → (∀ x ∈ ls, lo ≤ x.r ∧ x.r < hi) → lo ≤ hi → (ls.length : Int) ≤ hi - lo
  | [], lo, hi, _, _, h => by simp; omega
  | x :: ls, lo, hi, hp, hb, h => by
    have h1 := hb x (by simp)
    rw [List.pairwise_cons] at hp
    have := len_le (lo := x.r + 1) (hi := hi) hp.2 (fun y hy => ⟨by have := hp.1 y hy; omega, (hb y (by simp [hy])).2⟩) (by omega)
    simp only [List.length_cons]
    omega
theorem St.Valid.len16 {s : St} (h : s.Valid) : s.last.length ≤ 16 := by
  have := len_le (lo := 0) (hi := 16) h.2.2.2 (fun x hx => by have := h.2.1 x hx; simp only [Lease.Own] at this; omega) (by omega)
  omega

def Z4 : List AV := [E 0, E 0, E 0, .v (.slice none 0 0)]
/-- What was collected so far. -/
def Sofar (s : St) (r w f : Int) (i : Nat) (o : List Lease) (x : Lease) (pl : Bool) : Prop :=
  (i ≤ kF s.last r ∧ o = s.last.take i ∧ x = ⟨r, w, 1, s.now + s.len, f⟩ ∧ pl = false) ∨
  (kF s.last r < i ∧ ¬ Refused s r w ∧ o = s.last.take (kF s.last r) ++ newX s r w f :: (s.last.take i).drop (nextF s.last r) ∧ x = newX s r w f ∧ pl = true)

theorem Sofar.len {s : St} {r w f : Int} {i : Nat} {o : List Lease} {x : Lease} {pl : Bool} (hv : s.Valid) (h : Sofar s r w f i o x pl) (hi : i ≤ s.last.length) : o.length ≤ 40 := by
  have := hv.len16
  rcases h with ⟨_, rfl, _, _⟩ | ⟨_, _, rfl, _, _⟩
  · simp; omega
  · simp; omega

theorem getD_lt {s : St} (hv : s.Valid) {i j : Nat} (hi : i < s.last.length) (h : j < i) : (s.last.getD j default).r < (s.last.getD i default).r := hv.2.2.lt_of hi h

section
variable {s : St} {r w f : Int} {i : Nat} {o : List Lease} {x : Lease} {pl : Bool}
theorem Sofar.zero : Sofar s r w f 0 [] ⟨r, w, 1, s.now + s.len, f⟩ false := .inl ⟨Nat.zero_le _, by simp, rfl, rfl⟩
theorem Sofar.at (hv : s.Valid) (h : Sofar s r w f i o x pl) (hi : i < s.last.length) (hr : (s.last.getD i default).r = r) : kF s.last r = i ∧ Had s.last r ∧ o = s.last.take i ∧ x = ⟨r, w, 1, s.now + s.len, f⟩ ∧ pl = false := by
  have hk : kF s.last r = i := by
    rcases Nat.lt_trichotomy (kF s.last r) i with h1 | h1 | h1
    · have h2 := getD_lt hv hi h1
      have h3 := kF_ge (ls := s.last) (r := r) (by omega)
      omega
    · exact h1
    · have := kF_lt h1; omega
  refine ⟨hk, ⟨by omega, by rw [hk]; exact hr⟩, ?_⟩
  rcases h with ⟨_, h2, h3, h4⟩ | ⟨h1, _⟩
  · exact ⟨h2, h3, h4⟩
  · omega
theorem Sofar.refused (hv : s.Valid) (h : Sofar s r w f i o x pl) (hi : i < s.last.length) (hr : (s.last.getD i default).r = r) (hc : ¬(s.last.getD i default).w = w ∧ s.now < (s.last.getD i default).t) : Refused s r w := by
  obtain ⟨hk, hh, _⟩ := h.at hv hi hr
  exact ⟨hh, by rw [hk]; exact hc.1, by rw [hk]; exact hc.2⟩
theorem Sofar.hit (hv : s.Valid) (h : Sofar s r w f i o x pl) (hi : i < s.last.length) (hr : (s.last.getD i default).r = r) (hc : (s.last.getD i default).w = w ∨ ¬s.now < (s.last.getD i default).t)
    {e' f' : Int} (he : e' = (s.last.getD i default).e + 1) (hf : f' = max f (s.last.getD i default).f) : Sofar s r w f (i + 1) (o ++ [⟨x.r, x.w, e', x.t, f'⟩]) ⟨x.r, x.w, e', x.t, f'⟩ true := by
  obtain ⟨hk, hh, rfl, rfl, rfl⟩ := h.at hv hi hr
  have e : newX s r w f = ⟨r, w, e', s.now + s.len, f'⟩ := by rw [newX, if_pos hh, hk, he, hf]
  refine .inr ⟨by omega, ?_, ?_, e.symm, rfl⟩
  · rintro ⟨_, h2, h3⟩
    rw [hk] at h2 h3
    rcases hc with hc | hc
    · exact h2 hc
    · exact hc h3
  · rw [e, nextF, if_pos hh, hk, List.drop_of_length_le (by simp; omega)]
theorem Sofar.ins (h : Sofar s r w f i o x pl) (hi : i < s.last.length) (hr : ¬(s.last.getD i default).r = r) (hc : r < (s.last.getD i default).r ∧ pl = false) :
    Sofar s r w f (i + 1) (o ++ [x] ++ [s.last.getD i default]) x true := by
  rcases h with ⟨h1, rfl, rfl, _⟩ | ⟨_, _, _, _, h2⟩
  · have hk : kF s.last r = i := by
      rcases Nat.lt_or_ge i (kF s.last r) with h2 | h2
      · have := kF_lt h2; omega
      · omega
    have hh : ¬ Had s.last r := fun hh => hr (by rw [← hk]; exact hh.2)
    have e : newX s r w f = ⟨r, w, 1, s.now + s.len, f⟩ := by rw [newX, if_neg hh]
    refine .inr ⟨by omega, fun hq => hh hq.1, ?_, e.symm, rfl⟩
    rw [e, nextF, if_neg hh, hk, take_get hi, List.drop_append_of_le_length (by simp; omega), List.drop_of_length_le (by simp; omega)]
    simp
  · rw [hc.2] at h2; cases h2
theorem Sofar.go (h : Sofar s r w f i o x pl) (hi : i < s.last.length) (hr : ¬(s.last.getD i default).r = r) (hc : ¬r < (s.last.getD i default).r ∨ pl = true) :
    Sofar s r w f (i + 1) (o ++ [s.last.getD i default]) x pl := by
  rcases h with ⟨h1, rfl, rfl, rfl⟩ | ⟨h1, h2, rfl, rfl, rfl⟩
  · refine .inl ⟨?_, (take_get hi).symm, rfl, rfl⟩
    rcases Nat.lt_or_ge i (kF s.last r) with h2 | h2
    · exact h2
    · have hk : kF s.last r = i := by omega
      have := kF_ge (ls := s.last) (r := r) (by omega)
      rw [hk] at this
      rcases hc with hc | hc
      · omega
      · cases hc
  · refine .inr ⟨by omega, h2, ?_, rfl, rfl⟩
    rw [take_get hi, List.drop_append_of_le_length (by simp only [nextF, List.length_take]; split <;> omega)]
    simp
theorem Sofar.end0 (h : Sofar s r w f i o x pl) (hi : i = s.last.length) (hp : pl = false) : o ++ [x] = outF s.last r (newX s r w f) ∧ x = newX s r w f ∧ ¬ Refused s r w := by
  rcases h with ⟨h1, rfl, rfl, _⟩ | ⟨_, _, _, _, h2⟩
  · have hk := kF_le s.last r
    have hh : ¬ Had s.last r := fun hh => by have := hh.1; omega
    have e : newX s r w f = ⟨r, w, 1, s.now + s.len, f⟩ := by rw [newX, if_neg hh]
    refine ⟨?_, e.symm, fun hq => hh hq.1⟩
    have hk2 : kF s.last r = i := by omega
    rw [outF, e, nextF, if_neg hh, hk2, List.drop_of_length_le (by omega)]
  · rw [hp] at h2; cases h2
theorem Sofar.end1 (h : Sofar s r w f i o x pl) (hi : i = s.last.length) (hp : pl = true) : o = outF s.last r (newX s r w f) ∧ x = newX s r w f ∧ ¬ Refused s r w := by
  rcases h with ⟨_, _, _, h2⟩ | ⟨h1, h2, rfl, rfl, _⟩
  · rw [hp] at h2; cases h2
  · refine ⟨?_, rfl, h2⟩
    rw [outF, List.take_of_length_le (i := i) (by omega)]
end
theorem newX_t (s : St) (r w f : Int) : (newX s r w f).t = s.now + s.len := by unfold newX; split <;> rfl
theorem max_ite (a b : Int) : (if False then if b < a then b else a else if b > a then b else a) = max a b := by
  rw [if_neg (fun h => h)]; split <;> omega

set_option maxHeartbeats 4000000 in
theorem grant_ok (s : St) (r w f : Int) : Pure Try.prog 13 [.agg s.cells, .v (.int .i64 r), .v (.int .i64 w), .v (.int .i64 f)] (.tup [.agg (grantF s r w f).1.cells, .agg (grantF s r w f).2.1.cells, E (grantF s r w f).2.2]) := by
  refine Pure.runk (fun _ => 0) Try.func13 comp13 era13 (by simp [c13]) fun σ => ?_
  repeat' (first
    | (show OB _; first | exact OB.nil | refine OB.rfl ?_ | refine OB.tr ?_ | refine OB.grfl ?_ | refine OB.gtr ?_ | refine OB.self ?_ | refine OB.and ?_ | refine OB.cons ?_ ?_)
    | (show FK _ _ _ _ _ _ _ _; first | refine FK_seq ?_ | refine FK_blk ?_ | refine FK_fn ?_ | refine FK_nil ?_)
    | (show WK _ _ _ _ _ _ _ _; first
      | refine WK_keep rfl ?_
      | refine WK_seq ?_
      | refine WK_reg rfl ?_
      | refine WK_mreg rfl ?_
      | (fail)
      | refine WK_dreg rfl ?_
      | refine WK_block ?_
      | refine WK_ret ?_
      | refine WK_exit rfl ?_
      | refine WK_skip ?_
      | (refine WK_cond rfl ?_ ?_ <;> first | with_reducible exact skipTF | with_reducible exact skipFT | intro hc))
    | (show VX _ _ _ _ _ _ _; first
      | refine VX_run rfl rfl ?_ ?_
      | refine VX_nil ?_
      | (refine VX_alloc rfl ?_; intro b)
      | (refine VX_box rfl rfl ?_ ?_; rotate_left; intro b)
      | (refine VX_len rfl rfl ?_ ?_; rotate_left; intro hlen)
      | (refine VX_lenr rfl rfl ?_ ?_; rotate_left; intro hlen)
      | refine VX_iad rfl rfl rfl ?_ ?_ ?_
      | refine VX_slh rfl rfl rfl ?_ ?_ ?_
      | refine VX_sll rfl rfl rfl ?_ ?_ ?_
      | refine VX_slb rfl rfl rfl rfl ?_ ?_ ?_
      | (refine VX_mk0 rfl (by decide) ?_; intro b)
      | (refine VX_app0 rfl rfl ?_ ?_ ?_ (fun b u c => ?_))
      | (refine VX_app rfl rfl rfl ?_ ?_ ?_ (fun b u c => ?_))
      | refine VX_call rfl (by first | fail | exact tick_ok _ | exact tickR_ok _ | exact own_ok _ | exact ownR_ok _ | exact own_ok' _ _ _ _ _ | exact ownR_ok' _ _ _ _ _ | exact all_ok _ | exact valid_ok _ | exact stateR_ok _ | exact slow_ok _ _ | exact slowR_ok _ _ | exact adv_ok _ _ | exact advR_ok _ _) ?_ ?_
      | refine VX_callv rfl rfl (by rfl) (by first | fail | exact tick_ok _ | exact tickR_ok _ | exact own_ok _ | exact ownR_ok _ | exact own_ok' _ _ _ _ _ | exact ownR_ok' _ _ _ _ _ | exact all_ok _ | exact valid_ok _ | exact stateR_ok _ | exact slow_ok _ _ | exact slowR_ok _ _ | exact adv_ok _ _ | exact advR_ok _ _) ?_ ?_
      | refine VX_det rfl ?_ ?_
      | refine VX_ld1 rfl (by first | rfl | fail) ?_ (by first | fail | fail) ?_ ?_
      | refine VX_lda rfl (by first | rfl | fail) ?_ (by first | fail | fail) ?_ ?_
      | refine VX_st rfl rfl (by first | rfl | fail) ?_ (by rfl) (by first | fail | fail) ?_ ?_)
    | (show VY _ _ _ _ _ _ _; first
      | refine VY_run rfl rfl ?_ ?_
      | refine VY_nil ?_
      | (refine VY_alloc rfl ?_; intro b)
      | (refine VY_box rfl rfl ?_ ?_; rotate_left; intro b)
      | refine VY_len rfl rfl ?_ ?_
      | refine VY_lenr rfl rfl ?_ ?_
      | refine VY_iad rfl rfl rfl ?_ ?_ ?_
      | refine VY_call rfl (by first | fail | exact tick_ok _ | exact tickR_ok _ | exact own_ok _ | exact ownR_ok _ | exact own_ok' _ _ _ _ _ | exact ownR_ok' _ _ _ _ _ | exact all_ok _ | exact valid_ok _ | exact stateR_ok _ | exact slow_ok _ _ | exact slowR_ok _ _ | exact adv_ok _ _ | exact advR_ok _ _) ?_ ?_
      | refine VY_callv rfl rfl (by rfl) (by first | fail | exact tick_ok _ | exact tickR_ok _ | exact own_ok _ | exact ownR_ok _ | exact own_ok' _ _ _ _ _ | exact ownR_ok' _ _ _ _ _ | exact all_ok _ | exact valid_ok _ | exact stateR_ok _ | exact slow_ok _ _ | exact slowR_ok _ _ | exact adv_ok _ _ | exact advR_ok _ _) ?_ ?_
      | refine VY_det rfl ?_ ?_
      | refine VY_ld1 rfl (by first | rfl | fail) ?_ (by first | fail | fail) (by rfl) ?_ ?_
      | refine VY_lda rfl (by first | rfl | fail) ?_ (by first | fail | fail) (by rfl) ?_ ?_
      | refine VY_st rfl rfl (by first | rfl | fail) ?_ (by rfl) (by first | fail | fail) (by rfl) ?_ ?_)
    | (show List.all _ _ = true; rfl)
    | (show (_ : Nat) = _; rfl)
    | (show LoopW _ _ _ _ _; refine LoopW.intro rfl ?_)
    | (show retQ _ _ _ _ _; first | refine retQk_r rfl ?_ ?_ | refine retQk_n rfl ?_ ?_)
    | (show pureQ _ _ _ _ _ _; first | refine pureQk_r rfl ?_ ?_ | refine pureQk_n rfl ?_ ?_))
  try any_goals (intro hob;  first | (simp_all; done) | (simp only [decide_eq_true_eq, decide_eq_false_iff_not, Bool.not_true, Bool.not_false, Bool.not_eq_true', Bool.not_eq_false', Bool.and_eq_true, Bool.or_eq_true, Bool.and_eq_false_iff, Bool.or_eq_false_iff, Bool.true_and, Bool.and_true, Bool.false_or, Bool.or_false, Option.getD_some, Option.getD_none, forall_const, true_implies, ne_eq, eq_self, Int.toNat_natCast, Bool.xor_true, Bool.xor_false] at *; simp_all; done) | (simp only [decide_eq_true_eq, decide_eq_false_iff_not, Bool.not_true, Bool.not_false, Bool.not_eq_true', Bool.not_eq_false', Bool.and_eq_true, Bool.or_eq_true, Bool.and_eq_false_iff, Bool.or_eq_false_iff, Bool.true_and, Bool.and_true, Bool.false_or, Bool.or_false, Option.getD_some, Option.getD_none, forall_const, true_implies, ne_eq, eq_self, Int.toNat_natCast, Bool.xor_true, Bool.xor_false] at *; omega))
  all_goals (try simp only [decide_eq_true_eq, decide_eq_false_iff_not, Bool.not_true, Bool.not_false, Bool.not_eq_true', Bool.not_eq_false', Bool.and_eq_true, Bool.or_eq_true, Bool.and_eq_false_iff, Bool.or_eq_false_iff, Bool.true_and, Bool.and_true, Bool.false_or, Bool.or_false, Option.getD_some, Option.getD_none, forall_const, true_implies, ne_eq, eq_self, Int.toNat_natCast, Bool.xor_true, Bool.xor_false] at *)
  · rw [grantF, if_pos (by intro h; rcases hc with hc | hc; exact hc h.1; exact hc h.2)]
    (refine Sx.Fin.wk (by repeat' (first | exact Sub.refl _ | refine Sub.same ?_ | refine Sub.cons ?_)) ?_; repeat' (first | exact Wk.refl _ | refine Wk.tup ?_ | refine Wk.agg ?_ | exact WkL.nil | refine WkL.cons ?_ ?_ | exact Wk.nil | exact Wk.sl | exact Wk.own _))
  have hok := hc
  have hv := hc.1
  have hB := hv.bd
  clear hc
  have hw : IntKind.i64.wrap (s.now + s.len) = s.now + s.len := i64w (by omega)
  rename_i b4 b8 b9
  refine WK_loop (fun n rg σ' => ∃ i : Nat, i ≤ s.last.length ∧ n = s.last.length - i ∧ ∃ o x pl, Sofar s r w f i o x pl ∧ ∃ oa, rg = [(1, .v (.int .i64 r)), (2, .v (.int .i64 w)), (3, .v (.int .i64 f)), (4, .lp 4 b4 0), (8, .lp 8 b8 0), (9, .lp 9 b9 0), (12, oa), (13, .v (.bool pl)), (39, .v (.int .i64 s.last.length)), (40, .v (.int .i64 i))] ∧
    ((o = [] ∧ oa = .v (.slice none 0 0) ∧ σ' = (9, b9, .cells x.cells) :: (8, b8, .cells Z4) :: (4, b4, .cells s.cells) :: σ) ∨
      ∃ b u c, oa = .own 5 12 b u c (o.map Lease.cells) ∧ σ' = (12, b, .tail u c) :: (9, b9, .cells x.cells) :: (8, b8, .cells Z4) :: (4, b4, .cells s.cells) :: σ)) s.last.length rfl ?_ ?_
  · exact ⟨_, _, by repeat' (first | exact WkRL.refl _ | refine WkRL.cons ?_ ?_ | exact Wk.refl _ | exact WkL.nil | refine WkL.cons ?_ ?_ | refine Wk.tup ?_ | refine Wk.agg ?_ | exact Wk.nil | exact Wk.sl | exact Wk.own _ | exact Wk.tag), by repeat' (first | exact Sub.refl _ | refine Sub.same ?_ | refine Sub.cons ?_), 0, Nat.zero_le _, rfl, [], ⟨r, w, 1, IntKind.i64.wrap (s.now + s.len), f⟩, _, by rw [hw]; exact Sofar.zero, _, rfl, .inl ⟨rfl, rfl, rfl⟩⟩
  rintro n _ _ ⟨i, hi, hn, o, x, pl, hS, oa, rfl, ⟨rfl, rfl, rfl⟩ | ⟨bo, u, c, rfl, rfl⟩⟩
  · repeat' (first
    | (show OB _; first | exact OB.nil | refine OB.rfl ?_ | refine OB.tr ?_ | refine OB.grfl ?_ | refine OB.gtr ?_ | refine OB.self ?_ | refine OB.and ?_ | refine OB.cons ?_ ?_)
    | (show FK _ _ _ _ _ _ _ _; first | refine FK_seq ?_ | refine FK_blk ?_ | refine FK_fn ?_ | refine FK_nil ?_)
    | (show WK _ _ _ _ _ _ _ _; first
      | refine WK_keep rfl ?_
      | refine WK_seq ?_
      | refine WK_reg rfl ?_
      | refine WK_mreg rfl ?_
      | (fail)
      | refine WK_dreg rfl ?_
      | refine WK_block ?_
      | refine WK_ret ?_
      | refine WK_exit rfl ?_
      | refine WK_skip ?_
      | (refine WK_cond rfl ?_ ?_ <;> first | with_reducible exact skipTF | with_reducible exact skipFT | intro hc))
    | (show VX _ _ _ _ _ _ _; first
      | refine VX_run rfl rfl ?_ ?_
      | refine VX_nil ?_
      | (refine VX_alloc rfl ?_; intro b)
      | (refine VX_box rfl rfl ?_ ?_; rotate_left; intro b)
      | (refine VX_len rfl rfl ?_ ?_; rotate_left; intro hlen)
      | (refine VX_lenr rfl rfl ?_ ?_; rotate_left; intro hlen)
      | refine VX_iad rfl rfl rfl ?_ ?_ ?_
      | refine VX_slh rfl rfl rfl ?_ ?_ ?_
      | refine VX_sll rfl rfl rfl ?_ ?_ ?_
      | refine VX_slb rfl rfl rfl rfl ?_ ?_ ?_
      | (refine VX_mk0 rfl (by decide) ?_; intro b)
      | (refine VX_app0 rfl rfl ?_ ?_ ?_ (fun b u c => ?_))
      | (refine VX_app rfl rfl rfl ?_ ?_ ?_ (fun b u c => ?_))
      | refine VX_call rfl (by first | fail | exact tick_ok _ | exact tickR_ok _ | exact own_ok _ | exact ownR_ok _ | exact own_ok' _ _ _ _ _ | exact ownR_ok' _ _ _ _ _ | exact all_ok _ | exact valid_ok _ | exact stateR_ok _ | exact slow_ok _ _ | exact slowR_ok _ _ | exact adv_ok _ _ | exact advR_ok _ _) ?_ ?_
      | refine VX_callv rfl rfl (by rfl) (by first | fail | exact tick_ok _ | exact tickR_ok _ | exact own_ok _ | exact ownR_ok _ | exact own_ok' _ _ _ _ _ | exact ownR_ok' _ _ _ _ _ | exact all_ok _ | exact valid_ok _ | exact stateR_ok _ | exact slow_ok _ _ | exact slowR_ok _ _ | exact adv_ok _ _ | exact advR_ok _ _) ?_ ?_
      | refine VX_det rfl ?_ ?_
      | refine VX_ld1 rfl (by first | rfl | fail) ?_ (by first | fail | fail) ?_ ?_
      | refine VX_lda rfl (by first | rfl | fail) ?_ (by first | fail | fail) ?_ ?_
      | refine VX_st rfl rfl (by first | rfl | fail) ?_ (by rfl) (by first | fail | fail) ?_ ?_)
    | (show VY _ _ _ _ _ _ _; first
      | refine VY_run rfl rfl ?_ ?_
      | refine VY_nil ?_
      | (refine VY_alloc rfl ?_; intro b)
      | (refine VY_box rfl rfl ?_ ?_; rotate_left; intro b)
      | refine VY_len rfl rfl ?_ ?_
      | refine VY_lenr rfl rfl ?_ ?_
      | refine VY_iad rfl rfl rfl ?_ ?_ ?_
      | refine VY_call rfl (by first | fail | exact tick_ok _ | exact tickR_ok _ | exact own_ok _ | exact ownR_ok _ | exact own_ok' _ _ _ _ _ | exact ownR_ok' _ _ _ _ _ | exact all_ok _ | exact valid_ok _ | exact stateR_ok _ | exact slow_ok _ _ | exact slowR_ok _ _ | exact adv_ok _ _ | exact advR_ok _ _) ?_ ?_
      | refine VY_callv rfl rfl (by rfl) (by first | fail | exact tick_ok _ | exact tickR_ok _ | exact own_ok _ | exact ownR_ok _ | exact own_ok' _ _ _ _ _ | exact ownR_ok' _ _ _ _ _ | exact all_ok _ | exact valid_ok _ | exact stateR_ok _ | exact slow_ok _ _ | exact slowR_ok _ _ | exact adv_ok _ _ | exact advR_ok _ _) ?_ ?_
      | refine VY_det rfl ?_ ?_
      | refine VY_ld1 rfl (by first | rfl | fail) ?_ (by first | fail | fail) (by rfl) ?_ ?_
      | refine VY_lda rfl (by first | rfl | fail) ?_ (by first | fail | fail) (by rfl) ?_ ?_
      | refine VY_st rfl rfl (by first | rfl | fail) ?_ (by rfl) (by first | fail | fail) (by rfl) ?_ ?_)
    | (show List.all _ _ = true; rfl)
    | (show (_ : Nat) = _; rfl)
    | (show LoopW _ _ _ _ _; refine LoopW.intro rfl ?_)
    | (show retQ _ _ _ _ _; first | refine retQk_r rfl ?_ ?_ | refine retQk_n rfl ?_ ?_)
    | (show pureQ _ _ _ _ _ _; first | refine pureQk_r rfl ?_ ?_ | refine pureQk_n rfl ?_ ?_))
    try any_goals (intro hob;  first | (simp_all; done) | (simp only [decide_eq_true_eq, decide_eq_false_iff_not, Bool.not_true, Bool.not_false, Bool.not_eq_true', Bool.not_eq_false', Bool.and_eq_true, Bool.or_eq_true, Bool.and_eq_false_iff, Bool.or_eq_false_iff, Bool.true_and, Bool.and_true, Bool.false_or, Bool.or_false, Option.getD_some, Option.getD_none, forall_const, true_implies, ne_eq, eq_self, Int.toNat_natCast, Bool.xor_true, Bool.xor_false] at *; simp_all; done) | (simp only [decide_eq_true_eq, decide_eq_false_iff_not, Bool.not_true, Bool.not_false, Bool.not_eq_true', Bool.not_eq_false', Bool.and_eq_true, Bool.or_eq_true, Bool.and_eq_false_iff, Bool.or_eq_false_iff, Bool.true_and, Bool.and_true, Bool.false_or, Bool.or_false, Option.getD_some, Option.getD_none, forall_const, true_implies, ne_eq, eq_self, Int.toNat_natCast, Bool.xor_true, Bool.xor_false] at *; omega))
    all_goals (try simp only [decide_eq_true_eq, decide_eq_false_iff_not, Bool.not_true, Bool.not_false, Bool.not_eq_true', Bool.not_eq_false', Bool.and_eq_true, Bool.or_eq_true, Bool.and_eq_false_iff, Bool.or_eq_false_iff, Bool.true_and, Bool.and_true, Bool.false_or, Bool.or_false, Option.getD_some, Option.getD_none, forall_const, true_implies, ne_eq, eq_self, Int.toNat_natCast, Bool.xor_true, Bool.xor_false] at *)
    any_goals (simp only [List.length_cons, List.length_nil]; omega)
    · rename_i hlt hr
      rw [grantF, if_neg (fun h => h hok), if_pos (hS.refused hv (by omega) hr hc)]
      (refine Sx.Fin.wk (by repeat' (first | exact Sub.refl _ | refine Sub.same ?_ | refine Sub.cons ?_)) ?_; repeat' (first | exact Wk.refl _ | refine Wk.tup ?_ | refine Wk.agg ?_ | exact WkL.nil | refine WkL.cons ?_ ?_ | exact Wk.nil | exact Wk.sl | exact Wk.own _))
    · rename_i hlt hr
      have hy := hv.2.1 _ (getD_mem (l := s.last) (i := i) (by omega))
      simp only [Tick, Lease.Own, St.Num] at hy
      refine ⟨s.last.length - (i + 1), by omega, _, _, ?_, ?_, i + 1, by omega, rfl, _, _, _, hS.hit hv (by omega) hr hc (i64w (by omega)) (max_ite _ _), _, rfl, .inr ⟨b, u, c, rfl, rfl⟩⟩
      · rw [up1 (by omega) hlen]
        repeat' (first | exact WkRL.refl _ | refine WkRL.cons ?_ ?_ | exact Wk.refl _ | exact WkL.nil | refine WkL.cons ?_ ?_ | refine Wk.tup ?_ | refine Wk.agg ?_ | exact Wk.nil | exact Wk.sl | exact Wk.own _ | exact Wk.tag)
      · repeat' (first | exact Sub.refl _ | refine Sub.same ?_ | refine Sub.cons ?_)
    · rename_i hlt hr
      refine ⟨s.last.length - (i + 1), by omega, _, _, ?_, ?_, i + 1, by omega, rfl, _, _, _, hS.ins (by omega) hr hc, _, rfl, .inr ⟨b, u, c, rfl, rfl⟩⟩
      · rw [up1 (by omega) hlen]
        repeat' (first | exact WkRL.refl _ | refine WkRL.cons ?_ ?_ | exact Wk.refl _ | exact WkL.nil | refine WkL.cons ?_ ?_ | refine Wk.tup ?_ | refine Wk.agg ?_ | exact Wk.nil | exact Wk.sl | exact Wk.own _ | exact Wk.tag)
      · repeat' (first | exact Sub.refl _ | refine Sub.same ?_ | refine Sub.cons ?_)
    · rename_i hlt hr
      refine ⟨s.last.length - (i + 1), by omega, _, _, ?_, ?_, i + 1, by omega, rfl, _, _, _, hS.go (by omega) hr hc, _, rfl, .inr ⟨b, u, c, rfl, rfl⟩⟩
      · rw [up1 (by omega) hlen]
        repeat' (first | exact WkRL.refl _ | refine WkRL.cons ?_ ?_ | exact Wk.refl _ | exact WkL.nil | refine WkL.cons ?_ ?_ | refine Wk.tup ?_ | refine Wk.agg ?_ | exact Wk.nil | exact Wk.sl | exact Wk.own _ | exact Wk.tag)
      · repeat' (first | exact Sub.refl _ | refine Sub.same ?_ | refine Sub.cons ?_)
    · rename_i hlt hp
      obtain ⟨ho, hx, hr⟩ := hS.end0 (by omega) hp
      rw [grantF, if_neg (fun h => h hok), if_neg hr, if_pos (by rw [← hx, ← newX_t s r w f, ← hx]; exact hc)]
      (refine Sx.Fin.wk (by repeat' (first | exact Sub.refl _ | refine Sub.same ?_ | refine Sub.cons ?_)) ?_; repeat' (first | exact Wk.refl _ | refine Wk.tup ?_ | refine Wk.agg ?_ | exact WkL.nil | refine WkL.cons ?_ ?_ | exact Wk.nil | exact Wk.sl | exact Wk.own _))
    · rename_i hlt hp
      obtain ⟨ho, hx, hr⟩ := hS.end0 (by omega) hp
      rw [grantF, if_neg (fun h => h hok), if_neg hr, if_neg (by rw [← hx, ← newX_t s r w f, ← hx]; omega), ← ho, ← hx]
      (refine Sx.Fin.wk (by repeat' (first | exact Sub.refl _ | refine Sub.same ?_ | refine Sub.cons ?_)) ?_; repeat' (first | exact Wk.refl _ | refine Wk.tup ?_ | refine Wk.agg ?_ | exact WkL.nil | refine WkL.cons ?_ ?_ | exact Wk.nil | exact Wk.sl | exact Wk.own _))
    · rename_i hlt hp
      obtain ⟨ho, hx, hr⟩ := hS.end1 (by omega) hp
      rw [grantF, if_neg (fun h => h hok), if_neg hr, if_pos (by rw [← hx, ← newX_t s r w f, ← hx]; exact hc)]
      (refine Sx.Fin.wk (by repeat' (first | exact Sub.refl _ | refine Sub.same ?_ | refine Sub.cons ?_)) ?_; repeat' (first | exact Wk.refl _ | refine Wk.tup ?_ | refine Wk.agg ?_ | exact WkL.nil | refine WkL.cons ?_ ?_ | exact Wk.nil | exact Wk.sl | exact Wk.own _))
    · rename_i hlt hp
      obtain ⟨ho, hx, hr⟩ := hS.end1 (by omega) hp
      rw [grantF, if_neg (fun h => h hok), if_neg hr, if_neg (by rw [← hx, ← newX_t s r w f, ← hx]; omega), ← ho, ← hx]
      (refine Sx.Fin.wk (by repeat' (first | exact Sub.refl _ | refine Sub.same ?_ | refine Sub.cons ?_)) ?_; repeat' (first | exact Wk.refl _ | refine Wk.tup ?_ | refine Wk.agg ?_ | exact WkL.nil | refine WkL.cons ?_ ?_ | exact Wk.nil | exact Wk.sl | exact Wk.own _))
  · have hl40 := hS.len hv hi
    repeat' (first
    | (show OB _; first | exact OB.nil | refine OB.rfl ?_ | refine OB.tr ?_ | refine OB.grfl ?_ | refine OB.gtr ?_ | refine OB.self ?_ | refine OB.and ?_ | refine OB.cons ?_ ?_)
    | (show FK _ _ _ _ _ _ _ _; first | refine FK_seq ?_ | refine FK_blk ?_ | refine FK_fn ?_ | refine FK_nil ?_)
    | (show WK _ _ _ _ _ _ _ _; first
      | refine WK_keep rfl ?_
      | refine WK_seq ?_
      | refine WK_reg rfl ?_
      | refine WK_mreg rfl ?_
      | (fail)
      | refine WK_dreg rfl ?_
      | refine WK_block ?_
      | refine WK_ret ?_
      | refine WK_exit rfl ?_
      | refine WK_skip ?_
      | (refine WK_cond rfl ?_ ?_ <;> first | with_reducible exact skipTF | with_reducible exact skipFT | intro hc))
    | (show VX _ _ _ _ _ _ _; first
      | refine VX_run rfl rfl ?_ ?_
      | refine VX_nil ?_
      | (refine VX_alloc rfl ?_; intro b)
      | (refine VX_box rfl rfl ?_ ?_; rotate_left; intro b)
      | (refine VX_len rfl rfl ?_ ?_; rotate_left; intro hlen)
      | (refine VX_lenr rfl rfl ?_ ?_; rotate_left; intro hlen)
      | refine VX_iad rfl rfl rfl ?_ ?_ ?_
      | refine VX_slh rfl rfl rfl ?_ ?_ ?_
      | refine VX_sll rfl rfl rfl ?_ ?_ ?_
      | refine VX_slb rfl rfl rfl rfl ?_ ?_ ?_
      | (refine VX_mk0 rfl (by decide) ?_; intro b)
      | (refine VX_app0 rfl rfl ?_ ?_ ?_ (fun b u c => ?_))
      | (refine VX_app rfl rfl rfl ?_ ?_ ?_ (fun b u c => ?_))
      | refine VX_call rfl (by first | fail | exact tick_ok _ | exact tickR_ok _ | exact own_ok _ | exact ownR_ok _ | exact own_ok' _ _ _ _ _ | exact ownR_ok' _ _ _ _ _ | exact all_ok _ | exact valid_ok _ | exact stateR_ok _ | exact slow_ok _ _ | exact slowR_ok _ _ | exact adv_ok _ _ | exact advR_ok _ _) ?_ ?_
      | refine VX_callv rfl rfl (by rfl) (by first | fail | exact tick_ok _ | exact tickR_ok _ | exact own_ok _ | exact ownR_ok _ | exact own_ok' _ _ _ _ _ | exact ownR_ok' _ _ _ _ _ | exact all_ok _ | exact valid_ok _ | exact stateR_ok _ | exact slow_ok _ _ | exact slowR_ok _ _ | exact adv_ok _ _ | exact advR_ok _ _) ?_ ?_
      | refine VX_det rfl ?_ ?_
      | refine VX_ld1 rfl (by first | rfl | fail) ?_ (by first | fail | fail) ?_ ?_
      | refine VX_lda rfl (by first | rfl | fail) ?_ (by first | fail | fail) ?_ ?_
      | refine VX_st rfl rfl (by first | rfl | fail) ?_ (by rfl) (by first | fail | fail) ?_ ?_)
    | (show VY _ _ _ _ _ _ _; first
      | refine VY_run rfl rfl ?_ ?_
      | refine VY_nil ?_
      | (refine VY_alloc rfl ?_; intro b)
      | (refine VY_box rfl rfl ?_ ?_; rotate_left; intro b)
      | refine VY_len rfl rfl ?_ ?_
      | refine VY_lenr rfl rfl ?_ ?_
      | refine VY_iad rfl rfl rfl ?_ ?_ ?_
      | refine VY_call rfl (by first | fail | exact tick_ok _ | exact tickR_ok _ | exact own_ok _ | exact ownR_ok _ | exact own_ok' _ _ _ _ _ | exact ownR_ok' _ _ _ _ _ | exact all_ok _ | exact valid_ok _ | exact stateR_ok _ | exact slow_ok _ _ | exact slowR_ok _ _ | exact adv_ok _ _ | exact advR_ok _ _) ?_ ?_
      | refine VY_callv rfl rfl (by rfl) (by first | fail | exact tick_ok _ | exact tickR_ok _ | exact own_ok _ | exact ownR_ok _ | exact own_ok' _ _ _ _ _ | exact ownR_ok' _ _ _ _ _ | exact all_ok _ | exact valid_ok _ | exact stateR_ok _ | exact slow_ok _ _ | exact slowR_ok _ _ | exact adv_ok _ _ | exact advR_ok _ _) ?_ ?_
      | refine VY_det rfl ?_ ?_
      | refine VY_ld1 rfl (by first | rfl | fail) ?_ (by first | fail | fail) (by rfl) ?_ ?_
      | refine VY_lda rfl (by first | rfl | fail) ?_ (by first | fail | fail) (by rfl) ?_ ?_
      | refine VY_st rfl rfl (by first | rfl | fail) ?_ (by rfl) (by first | fail | fail) (by rfl) ?_ ?_)
    | (show List.all _ _ = true; rfl)
    | (show (_ : Nat) = _; rfl)
    | (show LoopW _ _ _ _ _; refine LoopW.intro rfl ?_)
    | (show retQ _ _ _ _ _; first | refine retQk_r rfl ?_ ?_ | refine retQk_n rfl ?_ ?_)
    | (show pureQ _ _ _ _ _ _; first | refine pureQk_r rfl ?_ ?_ | refine pureQk_n rfl ?_ ?_))
    try any_goals (intro hob;  first | (simp_all; done) | (simp only [decide_eq_true_eq, decide_eq_false_iff_not, Bool.not_true, Bool.not_false, Bool.not_eq_true', Bool.not_eq_false', Bool.and_eq_true, Bool.or_eq_true, Bool.and_eq_false_iff, Bool.or_eq_false_iff, Bool.true_and, Bool.and_true, Bool.false_or, Bool.or_false, Option.getD_some, Option.getD_none, forall_const, true_implies, ne_eq, eq_self, Int.toNat_natCast, Bool.xor_true, Bool.xor_false] at *; simp_all; done) | (simp only [decide_eq_true_eq, decide_eq_false_iff_not, Bool.not_true, Bool.not_false, Bool.not_eq_true', Bool.not_eq_false', Bool.and_eq_true, Bool.or_eq_true, Bool.and_eq_false_iff, Bool.or_eq_false_iff, Bool.true_and, Bool.and_true, Bool.false_or, Bool.or_false, Option.getD_some, Option.getD_none, forall_const, true_implies, ne_eq, eq_self, Int.toNat_natCast, Bool.xor_true, Bool.xor_false] at *; omega))
    all_goals (try simp only [decide_eq_true_eq, decide_eq_false_iff_not, Bool.not_true, Bool.not_false, Bool.not_eq_true', Bool.not_eq_false', Bool.and_eq_true, Bool.or_eq_true, Bool.and_eq_false_iff, Bool.or_eq_false_iff, Bool.true_and, Bool.and_true, Bool.false_or, Bool.or_false, Option.getD_some, Option.getD_none, forall_const, true_implies, ne_eq, eq_self, Int.toNat_natCast, Bool.xor_true, Bool.xor_false] at *)
    any_goals (simp only [List.length_cons, List.length_nil, List.length_append, List.length_map]; omega)
    · rename_i hlt hr
      rw [grantF, if_neg (fun h => h hok), if_pos (hS.refused hv (by omega) hr hc)]
      (refine Sx.Fin.wk (by repeat' (first | exact Sub.refl _ | refine Sub.same ?_ | refine Sub.cons ?_)) ?_; repeat' (first | exact Wk.refl _ | refine Wk.tup ?_ | refine Wk.agg ?_ | exact WkL.nil | refine WkL.cons ?_ ?_ | exact Wk.nil | exact Wk.sl | exact Wk.own _))
      all_goals exact Wk.ownr (by simp [Lease.cells])
    · rename_i hlt hr
      have hy := hv.2.1 _ (getD_mem (l := s.last) (i := i) (by omega))
      simp only [Tick, Lease.Own, St.Num] at hy
      refine ⟨s.last.length - (i + 1), by omega, _, _, ?_, ?_, i + 1, by omega, rfl, _, _, _, hS.hit hv (by omega) hr hc (i64w (by omega)) (max_ite _ _), _, rfl, .inr ⟨b, u, c, rfl, rfl⟩⟩
      · rw [up1 (by omega) hlen]
        repeat' (first | exact WkRL.refl _ | refine WkRL.cons ?_ ?_ | exact Wk.refl _ | exact WkL.nil | refine WkL.cons ?_ ?_ | refine Wk.tup ?_ | refine Wk.agg ?_ | exact Wk.nil | exact Wk.sl | exact Wk.own _ | exact Wk.tag)
        all_goals exact Wk.tagr (by simp [Lease.cells])
      · repeat' (first | exact Sub.refl _ | refine Sub.same ?_ | refine Sub.cons ?_)
    · rename_i hlt hr
      refine ⟨s.last.length - (i + 1), by omega, _, _, ?_, ?_, i + 1, by omega, rfl, _, _, _, hS.ins (by omega) hr hc, _, rfl, .inr ⟨b, u, c, rfl, rfl⟩⟩
      · rw [up1 (by omega) hlen]
        repeat' (first | exact WkRL.refl _ | refine WkRL.cons ?_ ?_ | exact Wk.refl _ | exact WkL.nil | refine WkL.cons ?_ ?_ | refine Wk.tup ?_ | refine Wk.agg ?_ | exact Wk.nil | exact Wk.sl | exact Wk.own _ | exact Wk.tag)
        all_goals exact Wk.tagr (by simp [Lease.cells])
      · repeat' (first | exact Sub.refl _ | refine Sub.same ?_ | refine Sub.cons ?_)
    · rename_i hlt hr
      refine ⟨s.last.length - (i + 1), by omega, _, _, ?_, ?_, i + 1, by omega, rfl, _, _, _, hS.go (by omega) hr hc, _, rfl, .inr ⟨b, u, c, rfl, rfl⟩⟩
      · rw [up1 (by omega) hlen]
        repeat' (first | exact WkRL.refl _ | refine WkRL.cons ?_ ?_ | exact Wk.refl _ | exact WkL.nil | refine WkL.cons ?_ ?_ | refine Wk.tup ?_ | refine Wk.agg ?_ | exact Wk.nil | exact Wk.sl | exact Wk.own _ | exact Wk.tag)
        all_goals exact Wk.tagr (by simp [Lease.cells])
      · repeat' (first | exact Sub.refl _ | refine Sub.same ?_ | refine Sub.cons ?_)
    · rename_i hlt hp
      obtain ⟨ho, hx, hr⟩ := hS.end0 (by omega) hp
      rw [grantF, if_neg (fun h => h hok), if_neg hr, if_pos (by rw [← hx, ← newX_t s r w f, ← hx]; exact hc)]
      (refine Sx.Fin.wk (by repeat' (first | exact Sub.refl _ | refine Sub.same ?_ | refine Sub.cons ?_)) ?_; repeat' (first | exact Wk.refl _ | refine Wk.tup ?_ | refine Wk.agg ?_ | exact WkL.nil | refine WkL.cons ?_ ?_ | exact Wk.nil | exact Wk.sl | exact Wk.own _))
      all_goals exact Wk.ownr (by simp [Lease.cells])
    · rename_i hlt hp
      obtain ⟨ho, hx, hr⟩ := hS.end0 (by omega) hp
      rw [grantF, if_neg (fun h => h hok), if_neg hr, if_neg (by rw [← hx, ← newX_t s r w f, ← hx]; omega), ← ho, ← hx]
      (refine Sx.Fin.wk (by repeat' (first | exact Sub.refl _ | refine Sub.same ?_ | refine Sub.cons ?_)) ?_; repeat' (first | exact Wk.refl _ | refine Wk.tup ?_ | refine Wk.agg ?_ | exact WkL.nil | refine WkL.cons ?_ ?_ | exact Wk.nil | exact Wk.sl | exact Wk.own _))
      all_goals exact Wk.ownr (by simp [Lease.cells])
    · rename_i hlt hp
      obtain ⟨ho, hx, hr⟩ := hS.end1 (by omega) hp
      rw [grantF, if_neg (fun h => h hok), if_neg hr, if_pos (by rw [← hx, ← newX_t s r w f, ← hx]; exact hc)]
      (refine Sx.Fin.wk (by repeat' (first | exact Sub.refl _ | refine Sub.same ?_ | refine Sub.cons ?_)) ?_; repeat' (first | exact Wk.refl _ | refine Wk.tup ?_ | refine Wk.agg ?_ | exact WkL.nil | refine WkL.cons ?_ ?_ | exact Wk.nil | exact Wk.sl | exact Wk.own _))
      all_goals exact Wk.ownr (by simp [Lease.cells])
    · rename_i hlt hp
      obtain ⟨ho, hx, hr⟩ := hS.end1 (by omega) hp
      rw [grantF, if_neg (fun h => h hok), if_neg hr, if_neg (by rw [← hx, ← newX_t s r w f, ← hx]; omega), ← ho, ← hx]
      (refine Sx.Fin.wk (by repeat' (first | exact Sub.refl _ | refine Sub.same ?_ | refine Sub.cons ?_)) ?_; repeat' (first | exact Wk.refl _ | refine Wk.tup ?_ | refine Wk.agg ?_ | exact WkL.nil | refine WkL.cons ?_ ?_ | exact Wk.nil | exact Wk.sl | exact Wk.own _))
      all_goals exact Wk.ownr (by simp [Lease.cells])

end Go.Proofs.Ytcibmkacgfhnkaa
