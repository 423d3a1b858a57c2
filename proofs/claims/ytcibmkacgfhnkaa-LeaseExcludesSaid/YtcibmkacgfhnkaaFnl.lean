/- The law LeaseRefuses. -/
import Derived.Test.YtcibmkacgfhnkaaFnk
set_option linter.unusedSimpArgs false
set_option linter.unusedVariables false
set_option maxRecDepth 100000
set_option maxHeartbeats 2000000
namespace Go.Proofs.Ytcibmkacgfhnkaa
open Go.Sx Go.Proofs

theorem grantF_of {s : St} {r w f : Int} (hv : s.Valid) (ho : (Lease.mk r w 1 0 f).Own) (hr : ¬ Refused s r w) (h1 : s.now + s.len ≤ 1099511627776) (h2 : (newX s r w f).e ≤ 1099511627776) :
    grantF s r w f = ({ s with last := outF s.last r (newX s r w f) }, newX s r w f, 0) := by
  rw [grantF, if_neg (fun h => h ⟨hv, ho⟩), if_neg hr, if_neg (by omega)]
theorem grantF_ref {s : St} {r w f : Int} (hv : s.Valid) (ho : (Lease.mk r w 1 0 f).Own) (hr : Refused s r w) : grantF s r w f = (.zero, .zero, 420) := by
  rw [grantF, if_neg (fun h => h ⟨hv, ho⟩), if_pos hr]
theorem own_of {r w f : Int} (h1 : 0 ≤ r) (h2 : r < 16) (h3 : 1 ≤ w) (h4 : w ≤ 8) (h5 : 0 ≤ f) (h6 : f ≤ 1099511627776) : (Lease.mk r w 1 0 f).Own := by
  simp only [Tick, Lease.Own, St.Num]; omega
theorem advF_of {s : St} {n : Int} (hv : s.Valid) (h0 : 0 ≤ n) (h1 : s.now + n ≤ 1099511627776) : advF s n = ({ s with now := s.now + n }, 0) := by
  rw [advF, if_neg (fun h => h.elim (fun k => k hv) (by omega)), if_neg (by omega)]

theorem had_nil (r : Int) : ¬ Had [] r := fun h => by have := h.1; simp at this
theorem kF_one (x : Lease) (r : Int) : kF [x] r = if x.r < r then 1 else 0 := by
  unfold kF; simp only [List.takeWhile_cons, List.takeWhile_nil]; split <;> rename_i h <;> simp at h <;> simp [h]
theorem had_one (x : Lease) (r : Int) : Had [x] r ↔ x.r = r := by
  unfold Had
  rw [kF_one]
  split
  · simp; omega
  · simp
theorem getD_one {x : Lease} {r : Int} (h : x.r = r) : [x].getD (kF [x] r) default = x := by
  rw [kF_one, if_neg (by omega)]; rfl
theorem wrap16 (n : Int) : IntKind.i64.wrap n % 16 = n % 16 := by
  simp only [IntKind.wrap, IntKind.signed, IntKind.bits]
  simp
  omega

theorem refuses_ok (a q c d e : Int) : Pure Try.prog 7 [.v (.int .i64 a), .v (.int .i64 q), .v (.int .i64 c), .v (.int .i64 d), .v (.int .i64 e)] (.v (.bool true)) := by
  refine Pure.runk (fun _ => 0) Try.func7 comp7 era7 (by simp [c7]) fun σ => ?_
  have a0 := Int.emod_nonneg a (b := 1000) (by omega)
  have a1 := Int.emod_lt_of_pos a (b := 1000) (by omega)
  have c0 := Int.emod_nonneg c (b := 8) (by omega)
  have c1 := Int.emod_lt_of_pos c (b := 8) (by omega)
  have d0 := Int.emod_nonneg d (b := 8) (by omega)
  have d1 := Int.emod_lt_of_pos d (b := 8) (by omega)
  have b0 := Int.emod_nonneg q (b := 16) (by omega)
  have b1 := Int.emod_lt_of_pos q (b := 16) (by omega)
  have b2 := Int.emod_nonneg (q + 1) (b := 16) (by omega)
  have b3 := Int.emod_lt_of_pos (q + 1) (b := 16) (by omega)
  have b4 : (q + 1) % 16 ≠ q % 16 := by omega
  have e0 := Int.emod_nonneg e (b := 2000) (by omega)
  have e1 := Int.emod_lt_of_pos e (b := 2000) (by omega)
  have wa : IntKind.i64.wrap (1 + a % 1000) = 1 + a % 1000 := i64w (by omega)
  have wc : IntKind.i64.wrap (1 + c % 8) = 1 + c % 8 := i64w (by omega)
  have wd : IntKind.i64.wrap (1 + d % 8) = 1 + d % 8 := i64w (by omega)
  have wb := wrap16 (q + 1)
  -- the states
  obtain ⟨hv0, hn0⟩ := newF_ok (len := 1 + a % 1000) (d := 100) (by omega) (by omega) (by omega) (by omega)
  have hx : newX ⟨0, 1 + a % 1000, 100, []⟩ (q % 16) (1 + c % 8) 0 = ⟨q % 16, 1 + c % 8, 1, 1 + a % 1000, 0⟩ := by
    rw [newX, if_neg (had_nil _)]; simp
  have ho : outF [] (q % 16) ⟨q % 16, 1 + c % 8, 1, 1 + a % 1000, 0⟩ = [⟨q % 16, 1 + c % 8, 1, 1 + a % 1000, 0⟩] := by
    rw [outF]; simp
  have hg1 := grantF_of (f := 0) hv0 (own_of b0 b1 (by omega) (by omega) (by omega) (by omega)) (fun h => had_nil _ h.1) (w := 1 + c % 8) (by dsimp only; omega) (by rw [hx]; dsimp only; omega)
  rw [hx] at hg1
  dsimp only at hg1
  rw [ho] at hg1
  have hvx : ∀ t : Int, 0 ≤ t → t ≤ 2000 → (St.mk t (1 + a % 1000) 100 [⟨q % 16, 1 + c % 8, 1, 1 + a % 1000, 0⟩]).Valid := by
    intro t h0 h1
    refine ⟨by simp only [Tick, Lease.Own, St.Num]; omega, (show ∀ x ∈ [_], Lease.Own x from fun x hx => ?_), (fun x hx => ?_), List.pairwise_singleton _ _⟩
    · rw [List.mem_singleton.1 hx]; simp only [Tick, Lease.Own, St.Num]; omega
    · rw [List.mem_singleton.1 hx]; dsimp only; omega
  have hg2 := advF_of (n := e % 2000) (hvx 0 (by omega) (by omega)) e0 (by dsimp only; omega)
  dsimp only at hg2
  rw [Int.zero_add] at hg2
  have hv2 := hvx (e % 2000) (by omega) (by omega)
  generalize hX : Lease.mk (q % 16) (1 + c % 8) 1 (1 + a % 1000) 0 = X at *
  generalize hS : St.mk (e % 2000) (1 + a % 1000) 100 [X] = S at *
  have hXr : X.r = q % 16 := by rw [← hX]
  have hXw : X.w = 1 + c % 8 := by rw [← hX]
  have hXt : X.t = 1 + a % 1000 := by rw [← hX]
  have hXe : X.e = 1 := by rw [← hX]
  have hSl : S.last = [X] := by rw [← hS]
  have hSn : S.now = e % 2000 := by rw [← hS]
  have hSs : S.len = 1 + a % 1000 := by rw [← hS]
  have hH : Had S.last (q % 16) := by rw [hSl]; exact (had_one _ _).2 hXr
  have hG : S.last.getD (kF S.last (q % 16)) default = X := by rw [hSl]; exact getD_one hXr
  have hN : ∀ w, newX S (q % 16) w 0 = ⟨q % 16, w, 2, S.now + S.len, max 0 X.f⟩ := fun w => by rw [newX, if_pos hH, hG, hXe]; rfl
  have hH' : ¬ Had S.last ((q + 1) % 16) := by rw [hSl, had_one]; omega
  have hN' : newX S ((q + 1) % 16) (1 + d % 8) 0 = ⟨(q + 1) % 16, 1 + d % 8, 1, S.now + S.len, 0⟩ := by rw [newX, if_neg hH']
  have hR : ∀ w, Refused S (q % 16) w ↔ (1 + c % 8 ≠ w ∧ e % 2000 < 1 + a % 1000) := fun w => by
    unfold Refused
    rw [hG, hXw, hXt, hSn]
    exact ⟨fun h => h.2, fun h => ⟨hH, h⟩⟩
  have hk1 := grantF_of (f := 0) hv2 (own_of b2 b3 (by omega) (by omega) (by omega) (by omega)) (fun h => hH' h.1) (w := 1 + d % 8) (by omega) (by rw [hN']; dsimp only; omega)
  have hk2 := grantF_of (f := 0) hv2 (own_of b0 b1 (by omega) (by omega) (by omega) (by omega)) (by rw [hR]; simp) (w := 1 + c % 8) (by omega) (by rw [hN]; dsimp only; omega)
  repeat' (first
    | (show OB _; first | exact OB.nil | refine OB.rfl ?_ | refine OB.tr ?_ | refine OB.grfl ?_ | refine OB.gtr ?_ | refine OB.self ?_ | refine OB.and ?_ | refine OB.cons ?_ ?_)
    | (show FK _ _ _ _ _ _ _ _; first | refine FK_seq ?_ | refine FK_blk ?_ | refine FK_fn ?_ | refine FK_nil ?_)
    | (show WK _ _ _ _ _ _ _ _; first
      | refine WK_keep rfl ?_
      | refine WK_seq ?_
      | refine WK_reg rfl ?_
      | refine WK_mreg rfl ?_
      | (fail)
      | refine WK_dreg rfl ?_
      | refine WK_block ?_
      | refine WK_ret ?_
      | refine WK_exit rfl ?_
      | refine WK_skip ?_
      | (refine WK_cond rfl ?_ ?_ <;> first | with_reducible exact skipTF | with_reducible exact skipFT | intro hc))
    | (show VX _ _ _ _ _ _ _; first
      | refine VX_run rfl rfl ?_ ?_
      | refine VX_nil ?_
      | (refine VX_alloc rfl ?_; intro b)
      | (refine VX_box rfl rfl ?_ ?_; rotate_left; intro b)
      | (refine VX_len rfl rfl ?_ ?_; rotate_left; intro hlen)
      | (refine VX_lenr rfl rfl ?_ ?_; rotate_left; intro hlen)
      | refine VX_iad rfl rfl rfl ?_ ?_ ?_
      | refine VX_slh rfl rfl rfl ?_ ?_ ?_
      | refine VX_sll rfl rfl rfl ?_ ?_ ?_
      | refine VX_slb rfl rfl rfl rfl ?_ ?_ ?_
      | (refine VX_mk0 rfl (by decide) ?_; intro b)
      | (refine VX_app0 rfl rfl ?_ ?_ ?_ (fun b u c => ?_))
      | (refine VX_app rfl rfl rfl ?_ ?_ ?_ (fun b u c => ?_))
      | refine VX_call rfl (by first | fail | exact new_ok _ _ | exact newR_ok _ _ | exact adv_ok _ _ | exact advR_ok _ _ | exact grant_ok _ _ _ _ | exact grantR_ok _ _ _ _ | exact slow_ok _ _ | exact slowR_ok _ _ | exact local_ok _ _ _ | exact localR_ok _ _ _ | exact isValid_ok _ _ | exact same_ok _ _ | exact around_ok _ _ (by omega) (by omega) | exact few60_ok _ _ | exact few80_ok _ _ | exact example_ok) ?_ ?_
      | refine VX_callv rfl rfl (by rfl) (by first | fail | exact new_ok _ _ | exact newR_ok _ _ | exact adv_ok _ _ | exact advR_ok _ _ | exact grant_ok _ _ _ _ | exact grantR_ok _ _ _ _ | exact slow_ok _ _ | exact slowR_ok _ _ | exact local_ok _ _ _ | exact localR_ok _ _ _ | exact isValid_ok _ _ | exact same_ok _ _ | exact around_ok _ _ (by omega) (by omega) | exact few60_ok _ _ | exact few80_ok _ _ | exact example_ok) ?_ ?_
      | refine VX_det rfl ?_ ?_
      | refine VX_ld1 rfl (by first | rfl | fail) ?_ (by first | fail | fail) ?_ ?_
      | refine VX_lda rfl (by first | rfl | fail) ?_ (by first | fail | fail) ?_ ?_
      | refine VX_st rfl rfl (by first | rfl | fail) ?_ (by rfl) (by first | fail | fail) ?_ ?_)
    | (show VY _ _ _ _ _ _ _; first
      | refine VY_run rfl rfl ?_ ?_
      | refine VY_nil ?_
      | (refine VY_alloc rfl ?_; intro b)
      | (refine VY_box rfl rfl ?_ ?_; rotate_left; intro b)
      | refine VY_len rfl rfl ?_ ?_
      | refine VY_lenr rfl rfl ?_ ?_
      | refine VY_iad rfl rfl rfl ?_ ?_ ?_
      | refine VY_call rfl (by first | fail | exact new_ok _ _ | exact newR_ok _ _ | exact adv_ok _ _ | exact advR_ok _ _ | exact grant_ok _ _ _ _ | exact grantR_ok _ _ _ _ | exact slow_ok _ _ | exact slowR_ok _ _ | exact local_ok _ _ _ | exact localR_ok _ _ _ | exact isValid_ok _ _ | exact same_ok _ _ | exact around_ok _ _ (by omega) (by omega) | exact few60_ok _ _ | exact few80_ok _ _ | exact example_ok) ?_ ?_
      | refine VY_callv rfl rfl (by rfl) (by first | fail | exact new_ok _ _ | exact newR_ok _ _ | exact adv_ok _ _ | exact advR_ok _ _ | exact grant_ok _ _ _ _ | exact grantR_ok _ _ _ _ | exact slow_ok _ _ | exact slowR_ok _ _ | exact local_ok _ _ _ | exact localR_ok _ _ _ | exact isValid_ok _ _ | exact same_ok _ _ | exact around_ok _ _ (by omega) (by omega) | exact few60_ok _ _ | exact few80_ok _ _ | exact example_ok) ?_ ?_
      | refine VY_det rfl ?_ ?_
      | refine VY_ld1 rfl (by first | rfl | fail) ?_ (by first | fail | fail) (by rfl) ?_ ?_
      | refine VY_lda rfl (by first | rfl | fail) ?_ (by first | fail | fail) (by rfl) ?_ ?_
      | refine VY_st rfl rfl (by first | rfl | fail) ?_ (by rfl) (by first | fail | fail) (by rfl) ?_ ?_)
    | (show List.all _ _ = true; rfl)
    | (show (_ : Nat) = _; rfl)
    | (show LoopW _ _ _ _ _; refine LoopW.intro rfl ?_)
    | (show retQ _ _ _ _ _; first | refine retQk_r rfl ?_ ?_ | refine retQk_n rfl ?_ ?_)
    | (show pureQ _ _ _ _ _ _; first | refine pureQk_r rfl ?_ ?_ | refine pureQk_n rfl ?_ ?_))
  try any_goals (intro hob;  first | (simp_all; done) | (simp only [decide_eq_true_eq, decide_eq_false_iff_not, Bool.not_true, Bool.not_false, Bool.not_eq_true', Bool.not_eq_false', Bool.and_eq_true, Bool.or_eq_true, Bool.and_eq_false_iff, Bool.or_eq_false_iff, Bool.true_and, Bool.and_true, Bool.false_or, Bool.or_false, Option.getD_some, Option.getD_none, forall_const, true_implies, ne_eq, eq_self, Int.toNat_natCast, Bool.xor_true, Bool.xor_false] at *; simp_all; done) | (simp only [decide_eq_true_eq, decide_eq_false_iff_not, Bool.not_true, Bool.not_false, Bool.not_eq_true', Bool.not_eq_false', Bool.and_eq_true, Bool.or_eq_true, Bool.and_eq_false_iff, Bool.or_eq_false_iff, Bool.true_and, Bool.and_true, Bool.false_or, Bool.or_false, Option.getD_some, Option.getD_none, forall_const, true_implies, ne_eq, eq_self, Int.toNat_natCast, Bool.xor_true, Bool.xor_false] at *; omega))
  all_goals (simp only [wa, wc, wd, wb, hn0, hg1, hg2, hk1, hk2, hN, hN'] at hc ⊢)
  · simp [hXt] at hc
  · simp only [decide_eq_true_eq, decide_eq_false_iff_not, Bool.not_true, Bool.not_false, Bool.not_eq_true', Bool.not_eq_false', Bool.and_eq_true, Bool.or_eq_true, Bool.and_eq_false_iff, Bool.or_eq_false_iff, Bool.true_and, Bool.and_true, Bool.false_or, Bool.or_false, Option.getD_some, Option.getD_none, forall_const, true_implies, ne_eq, eq_self, Int.toNat_natCast, Bool.xor_true, Bool.xor_false] at hc
    have hk := grantF_ref (f := 0) hv2 (own_of b0 b1 (by omega) (by omega) (by omega) (by omega)) ((hR (1 + d % 8)).2 hc)
    refine Sx.Fin.intro (by repeat' (first | exact Sub.refl _ | refine Sub.same ?_ | refine Sub.cons ?_)) (btrue ?_)
    rw [hk]
    rfl
  · simp only [decide_eq_true_eq, decide_eq_false_iff_not, Bool.not_true, Bool.not_false, Bool.not_eq_true', Bool.not_eq_false', Bool.and_eq_true, Bool.or_eq_true, Bool.and_eq_false_iff, Bool.or_eq_false_iff, Bool.true_and, Bool.and_true, Bool.false_or, Bool.or_false, Option.getD_some, Option.getD_none, forall_const, true_implies, ne_eq, eq_self, Int.toNat_natCast, Bool.xor_true, Bool.xor_false] at hc
    have hk := grantF_of (f := 0) hv2 (own_of b0 b1 (by omega) (by omega) (by omega) (by omega)) (w := 1 + d % 8) (fun h => by have := (hR _).1 h; omega) (by omega) (by rw [hN]; dsimp only; omega)
    refine Sx.Fin.intro (by repeat' (first | exact Sub.refl _ | refine Sub.same ?_ | refine Sub.cons ?_)) (btrue ?_)
    rw [hk, hN]
    simp
end Go.Proofs.Ytcibmkacgfhnkaa
