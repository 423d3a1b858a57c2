/- The law LeaseOrders. -/
import Derived.Test.YtcibmkacgfhnkaaPl
import Derived.Test.YtcibmkacgfhnkaaRd
import Derived.Test.YtcibmkacgfhnkaaSxArr
set_option linter.unusedSimpArgs false
set_option linter.unusedVariables false
set_option maxRecDepth 100000
set_option maxHeartbeats 2000000
namespace Go.Proofs.Ytcibmkacgfhnkaa
open Go.Sx Go.Proofs

/-- The table of the last leases. -/
def TB (tab : Nat → Lease) : List AV := rowsF 16 5 fun k => (tab k).cells
theorem TB_hf (tab : Nat → Lease) : ∀ k, ((fun k => (tab k).cells) k).length = 5 := fun _ => rfl
theorem TB_len (tab : Nat → Lease) : (TB tab).length = 80 := rowsF_len (TB_hf tab) 16
theorem TB_e {tab : Nat → Lease} {r : Int} (h : 0 ≤ r ∧ r < 16) : (TB tab)[0 + r.toNat * 5 + 2]? = some (.v (.int .i64 (tab r.toNat).e)) := by
  rw [Nat.zero_add]; exact rowsF_get (f := fun k => (tab k).cells) (TB_hf tab) (n := 16) (r := r.toNat) (j := 2) (by omega) (by omega)
theorem TB_f {tab : Nat → Lease} {r : Int} (h : 0 ≤ r ∧ r < 16) : (TB tab)[0 + r.toNat * 5 + 4]? = some (.v (.int .i64 (tab r.toNat).f)) := by
  rw [Nat.zero_add]; exact rowsF_get (f := fun k => (tab k).cells) (TB_hf tab) (n := 16) (r := r.toNat) (j := 4) (by omega) (by omega)
def upd (tab : Nat → Lease) (r : Nat) (x : Lease) : Nat → Lease := fun k => if k = r then x else tab k
theorem upd_cells (tab : Nat → Lease) (r : Nat) (x : Lease) : (fun k => (upd tab r x k).cells) = fun k => if k = r then over ((tab r).cells) 0 x.cells else (tab k).cells := by
  funext k
  unfold upd
  by_cases e : k = r
  · simp only [e, if_true]; exact (over_all (l := (tab r).cells) (l' := x.cells) rfl).symm
  · simp only [e, if_false]
theorem TB_set {tab : Nat → Lease} {r : Int} {x : Lease} (h : 0 ≤ r ∧ r < 16) : over (TB tab) (0 + r.toNat * 5) [.v (.int .i64 x.r), .v (.int .i64 x.w), .v (.int .i64 x.e), .v (.int .i64 x.t), .v (.int .i64 x.f)] = TB (upd tab r.toNat x) ∧ 0 + r.toNat * 5 + 5 ≤ (TB tab).length := by
  rw [Nat.zero_add]
  refine ⟨?_, by rw [TB_len]; omega⟩
  have := rowsF_set (f := fun k => (tab k).cells) (m := 5) (TB_hf tab) (n := 16) (r := r.toNat) (o := 0) (by omega) (l' := x.cells) (Nat.le_refl 5)
  unfold TB
  rw [upd_cells]
  exact this
/-- The cells are a table's (the walk does not look at them). -/
structure IsTB (cs : List AV) (tab : Nat → Lease) : Prop where
  e : cs = TB tab
theorem IsTB.g2 {cs : List AV} {tab : Nat → Lease} (hT : IsTB cs tab) {r : Int} (h : 0 ≤ r ∧ r < 16) : cs[0 + r.toNat * 5 + 2]? = some (.v (.int .i64 (tab r.toNat).e)) := by rw [hT.e]; exact TB_e h
theorem IsTB.g4 {cs : List AV} {tab : Nat → Lease} (hT : IsTB cs tab) {r : Int} (h : 0 ≤ r ∧ r < 16) : cs[0 + r.toNat * 5 + 4]? = some (.v (.int .i64 (tab r.toNat).f)) := by rw [hT.e]; exact TB_f h
theorem IsTB.st {cs : List AV} {tab : Nat → Lease} (hT : IsTB cs tab) {r : Int} {x : Lease} (h : 0 ≤ r ∧ r < 16) : over cs (0 + r.toNat * 5) [.v (.int .i64 x.r), .v (.int .i64 x.w), .v (.int .i64 x.e), .v (.int .i64 x.t), .v (.int .i64 x.f)] = TB (upd tab r.toNat x) ∧ 0 + r.toNat * 5 + 5 ≤ cs.length := by rw [hT.e]; exact TB_set h

/-- What holds behind i acts. -/
structure Good (i : Nat) (s : St) (tab : Nat → Lease) : Prop where
  v : s.Valid
  now : s.now ≤ 60 * i
  len : s.len ≤ 100
  ep : Ep s i
  t1 : ∀ y ∈ s.last, tab y.r.toNat = y
  t2 : ∀ r : Int, 0 ≤ r → r < 16 → (∀ y ∈ s.last, y.r ≠ r) → tab r.toNat = Lease.zero
theorem Good.zero {n : Int} (hv : (St.mk 0 n 0 []).Valid) (h : n ≤ 100) : Good 0 ⟨0, n, 0, []⟩ (fun _ => Lease.zero) :=
  ⟨hv, by simp, h, (fun y hy => by cases hy), (fun y hy => by cases hy), fun _ _ _ _ => rfl⟩

section
variable {i : Nat} {s : St} {tab : Nat → Lease}
theorem Good.skip (h : Good i s tab) : Good (i + 1) s tab := ⟨h.v, by have := h.now; omega, h.len, h.ep.up, h.t1, h.t2⟩
theorem Good.adv (h : Good i s tab) {n : Int} (h0 : 0 ≤ n) (h1 : n ≤ 60) (hi : i ≤ 1000) : Good (i + 1) { s with now := s.now + n } tab := by
  have := h.now
  exact ⟨adv_valid h.v h0 (by omega), by dsimp only; omega, h.len, (fun y hy => h.ep.up y hy), h.t1, h.t2⟩
theorem Good.new (h : Good i s tab) {r w f : Int} (h0 : 0 ≤ r) (h1 : r < 16) (hf : 0 ≤ f) : (newX s r w f).e = (tab r.toNat).e + 1 ∧ (tab r.toNat).f ≤ (newX s r w f).f ∧ f ≤ (newX s r w f).f ∧ 0 ≤ (tab r.toNat).e ∧ (tab r.toNat).e ≤ i := by
  by_cases hh : Had s.last r
  · have hm := had_mem hh
    have e : tab r.toNat = s.last.getD (kF s.last r) default := by have := h.t1 _ hm; rw [hh.2] at this; exact this
    have h2 := h.ep _ hm
    have h3 := h.v.2.1 _ hm
    simp only [Lease.Own] at h3
    rw [newX, if_pos hh, e]
    dsimp only
    refine ⟨rfl, by omega, by omega, by omega, h2⟩
  · have e : tab r.toNat = Lease.zero := h.t2 r h0 h1 fun y hy => not_had h.v.2.2.2 hh hy
    rw [newX, if_neg hh, e]
    simp only [Lease.zero]
    omega
theorem Good.grant (h : Good i s tab) {r w f : Int} (hi : i ≤ 1000) (h0 : 0 ≤ r) (h1 : r < 16) (ho : (Lease.mk r w 1 0 f).Own) : Good (i + 1) { s with last := outF s.last r (newX s r w f) } (upd tab r.toNat (newX s r w f)) := by
  have hn := h.now
  have hl := h.len
  have he := h.ep.new (r := r) (w := w) (f := f)
  have hup : Up s.last := h.v.2.2.2
  refine ⟨grant_valid h.v ho (by omega) (by omega), by dsimp only; omega, hl, h.ep.grant h.v, fun y hy => ?_, fun q hq0 hq1 hq => ?_⟩
  · rcases (mem_outF hup).1 hy with rfl | ⟨hy, hr⟩
    · rw [newX_r]; simp [upd]
    · have ho := h.v.2.1 _ hy
      simp only [Lease.Own] at ho
      have : ¬ y.r.toNat = r.toNat := by omega
      simp only [upd, if_neg this]
      exact h.t1 y hy
  · have hqr : q ≠ r := fun e => hq _ ((mem_outF hup).2 (.inl rfl)) (by rw [newX_r]; exact e.symm)
    have : ¬ q.toNat = r.toNat := by omega
    simp only [upd, if_neg this]
    exact h.t2 q hq0 hq1 fun y hy e => hq y ((mem_outF hup).2 (.inr ⟨hy, by omega⟩)) e
end

theorem orders_ok (length : Int) (ls : List Act) : Pure Try.prog 6 [.v (.int .i64 length), .sl false 5 (ls.map Act.cells)] (.v (.bool true)) := by
  refine Pure.runk (fun d => bif ([1000077, 1000078, 1000087, 1000088, 1000112] : List Nat).elem d then 1 else 0) Try.func6 comp6 era6 (by simp [c6]) fun σ => ?_
  have a0 := Int.emod_nonneg length (b := 100) (by omega)
  have a1 := Int.emod_lt_of_pos length (b := 100) (by omega)
  have wa : IntKind.i64.wrap (1 + length % 100) = 1 + length % 100 := i64w (by omega)
  obtain ⟨hv0, hn0⟩ := newF_ok (len := 1 + length % 100) (d := 0) (by omega) (by omega) (by omega) (by omega)
  repeat' (first
    | (show OB _; first | exact OB.nil | refine OB.rfl ?_ | refine OB.tr ?_ | refine OB.grfl ?_ | refine OB.gtr ?_ | refine OB.self ?_ | refine OB.and ?_ | refine OB.cons ?_ ?_)
    | (show FK _ _ _ _ _ _ _ _; first | refine FK_seq ?_ | refine FK_blk ?_ | refine FK_fn ?_ | refine FK_nil ?_)
    | (show WK _ _ _ _ _ _ _ _; first
      | refine WK_keep rfl ?_
      | refine WK_seq ?_
      | refine WK_reg rfl ?_
      | refine WK_mreg rfl ?_
      | (fail)
      | refine WK_dreg rfl ?_
      | refine WK_block ?_
      | refine WK_ret ?_
      | refine WK_exit rfl ?_
      | refine WK_skip ?_
      | (refine WK_cond rfl ?_ ?_ <;> first | with_reducible exact skipTF | with_reducible exact skipFT | intro hc))
    | (show VX _ _ _ _ _ _ _; first
      | refine VX_run rfl rfl ?_ ?_
      | refine VX_nil ?_
      | (refine VX_alloc rfl ?_; intro b)
      | (refine VX_box rfl rfl ?_ ?_; rotate_left; intro b)
      | (refine VX_len rfl rfl ?_ ?_; rotate_left; intro hlen)
      | (refine VX_lenr rfl rfl ?_ ?_; rotate_left; intro hlen)
      | refine VX_iad rfl rfl rfl ?_ ?_ ?_
      | refine VX_slh rfl rfl rfl ?_ ?_ ?_
      | refine VX_sll rfl rfl rfl ?_ ?_ ?_
      | refine VX_slb rfl rfl rfl rfl ?_ ?_ ?_
      | (refine VX_mk0 rfl (by decide) ?_; intro b)
      | (refine VX_app0 rfl rfl ?_ ?_ ?_ (fun b u c => ?_))
      | (refine VX_app rfl rfl rfl ?_ ?_ ?_ (fun b u c => ?_))
      | refine VX_call rfl (by first | fail | exact new_ok _ _ | exact newR_ok _ _ | exact adv_ok _ _ | exact advR_ok _ _ | exact grant_ok _ _ _ _ | exact grantR_ok _ _ _ _ | exact slow_ok _ _ | exact slowR_ok _ _ | exact local_ok _ _ _ | exact localR_ok _ _ _ | exact isValid_ok _ _ | exact same_ok _ _ | exact around_ok _ _ (by omega) (by omega) | exact few60_ok _ _ | exact few80_ok _ _ | exact example_ok) ?_ ?_
      | refine VX_callv rfl rfl (by rfl) (by first | fail | exact new_ok _ _ | exact newR_ok _ _ | exact adv_ok _ _ | exact advR_ok _ _ | exact grant_ok _ _ _ _ | exact grantR_ok _ _ _ _ | exact slow_ok _ _ | exact slowR_ok _ _ | exact local_ok _ _ _ | exact localR_ok _ _ _ | exact isValid_ok _ _ | exact same_ok _ _ | exact around_ok _ _ (by omega) (by omega) | exact few60_ok _ _ | exact few80_ok _ _ | exact example_ok) ?_ ?_
      | refine VX_det rfl ?_ ?_
      | refine VX_ld1 rfl (by first | rfl | fail) ?_ (by first | fail | exact hT.g2 (by omega) | exact hT.g4 (by omega) | exact hT.st (by omega)) ?_ ?_
      | refine VX_lda rfl (by first | rfl | fail) ?_ (by first | fail | exact hT.g2 (by omega) | exact hT.g4 (by omega) | exact hT.st (by omega)) ?_ ?_
      | refine VX_st rfl rfl (by first | rfl | fail) ?_ (by rfl) (by first | fail | exact hT.g2 (by omega) | exact hT.g4 (by omega) | exact hT.st (by omega)) ?_ ?_)
    | (show VY _ _ _ _ _ _ _; first
      | refine VY_run rfl rfl ?_ ?_
      | refine VY_nil ?_
      | (refine VY_alloc rfl ?_; intro b)
      | (refine VY_box rfl rfl ?_ ?_; rotate_left; intro b)
      | refine VY_len rfl rfl ?_ ?_
      | refine VY_lenr rfl rfl ?_ ?_
      | refine VY_iad rfl rfl rfl ?_ ?_ ?_
      | refine VY_call rfl (by first | fail | exact new_ok _ _ | exact newR_ok _ _ | exact adv_ok _ _ | exact advR_ok _ _ | exact grant_ok _ _ _ _ | exact grantR_ok _ _ _ _ | exact slow_ok _ _ | exact slowR_ok _ _ | exact local_ok _ _ _ | exact localR_ok _ _ _ | exact isValid_ok _ _ | exact same_ok _ _ | exact around_ok _ _ (by omega) (by omega) | exact few60_ok _ _ | exact few80_ok _ _ | exact example_ok) ?_ ?_
      | refine VY_callv rfl rfl (by rfl) (by first | fail | exact new_ok _ _ | exact newR_ok _ _ | exact adv_ok _ _ | exact advR_ok _ _ | exact grant_ok _ _ _ _ | exact grantR_ok _ _ _ _ | exact slow_ok _ _ | exact slowR_ok _ _ | exact local_ok _ _ _ | exact localR_ok _ _ _ | exact isValid_ok _ _ | exact same_ok _ _ | exact around_ok _ _ (by omega) (by omega) | exact few60_ok _ _ | exact few80_ok _ _ | exact example_ok) ?_ ?_
      | refine VY_det rfl ?_ ?_
      | refine VY_ld1 rfl (by first | rfl | fail) ?_ (by first | fail | exact hT.g2 (by omega) | exact hT.g4 (by omega) | exact hT.st (by omega)) (by rfl) ?_ ?_
      | refine VY_lda rfl (by first | rfl | fail) ?_ (by first | fail | exact hT.g2 (by omega) | exact hT.g4 (by omega) | exact hT.st (by omega)) (by rfl) ?_ ?_
      | refine VY_st rfl rfl (by first | rfl | fail) ?_ (by rfl) (by first | fail | exact hT.g2 (by omega) | exact hT.g4 (by omega) | exact hT.st (by omega)) (by rfl) ?_ ?_)
    | (show List.all _ _ = true; rfl)
    | (show (_ : Nat) = _; rfl)
    | (show LoopW _ _ _ _ _; refine LoopW.intro rfl ?_)
    | (show retQ _ _ _ _ _; first | refine retQk_r rfl ?_ ?_ | refine retQk_n rfl ?_ ?_)
    | (show pureQ _ _ _ _ _ _; first | refine pureQk_r rfl ?_ ?_ | refine pureQk_n rfl ?_ ?_))
  try any_goals (intro hob;  first | (simp_all; done) | (simp only [decide_eq_true_eq, decide_eq_false_iff_not, Bool.not_true, Bool.not_false, Bool.not_eq_true', Bool.not_eq_false', Bool.and_eq_true, Bool.or_eq_true, Bool.and_eq_false_iff, Bool.or_eq_false_iff, Bool.true_and, Bool.and_true, Bool.false_or, Bool.or_false, Option.getD_some, Option.getD_none, forall_const, true_implies, ne_eq, eq_self, Int.toNat_natCast, Bool.xor_true, Bool.xor_false] at *; simp_all; done) | (simp only [decide_eq_true_eq, decide_eq_false_iff_not, Bool.not_true, Bool.not_false, Bool.not_eq_true', Bool.not_eq_false', Bool.and_eq_true, Bool.or_eq_true, Bool.and_eq_false_iff, Bool.or_eq_false_iff, Bool.true_and, Bool.and_true, Bool.false_or, Bool.or_false, Option.getD_some, Option.getD_none, forall_const, true_implies, ne_eq, eq_self, Int.toNat_natCast, Bool.xor_true, Bool.xor_false] at *; omega))
  all_goals (simp only [wa, hn0] at hc ⊢)
  · simp at hc
  rename_i b5
  revert b
  intro b7
  have hacts : (List.take 80 ls).length ≤ 80 := by simp; omega
  generalize List.take 80 ls = acts at *
  clear hc
  refine WK_loop (fun n rg σ' => ∃ i : Nat, i ≤ acts.length ∧ n = acts.length - i ∧ ∃ (s : St) (tab : Nat → Lease) (cs : List AV), Good i s tab ∧ IsTB cs tab ∧ σ' = (7, b7, .cells cs) :: (5, b5, .cells s.cells) :: σ ∧ rg = [(5, .lp 5 b5 0), (7, .lp 7 b7 0), (8, .sl false 5 (acts.map Act.cells)), (9, .v (.int .i64 i))]) acts.length rfl ⟨_, _, by repeat' (first | exact WkRL.refl _ | refine WkRL.cons ?_ ?_ | exact Wk.refl _ | exact WkL.nil | refine WkL.cons ?_ ?_ | refine Wk.tup ?_ | refine Wk.agg ?_ | exact Wk.nil | exact Wk.sl | exact Wk.own _ | exact Wk.tag), by repeat' (first | exact Sub.refl _ | refine Sub.same ?_ | refine Sub.cons ?_), 0, Nat.zero_le _, rfl, ⟨0, 1 + length % 100, 0, []⟩, fun _ => Lease.zero, TB fun _ => Lease.zero, Good.zero hv0 (by omega), ⟨rfl⟩, by rfl, by rfl⟩ ?_
  clear hv0 hn0 wa
  rintro n _ _ ⟨i, hi, hn, s, tab, cs, hG, hT, rfl, rfl⟩
  have hB := hG.v.bd
  have hnow := hG.now
  have hlen2 := hG.len
  have hi80 : i ≤ 80 := by omega
  have hW : IntKind.i64.wrap (1 + (acts.getD i default).w % 8) = 1 + (acts.getD i default).w % 8 := i64w (by omega)
  have hAdv := advF_of (n := (acts.getD i default).n % 60) hG.v (by omega) (by omega)
  have hown : (Lease.mk ((acts.getD i default).r % 16) (1 + (acts.getD i default).w % 8) 1 0 ((acts.getD i default).n % 1000)).Own := own_of (by omega) (by omega) (by omega) (by omega) (by omega) (by omega)
  have hnew := hG.new (r := (acts.getD i default).r % 16) (w := 1 + (acts.getD i default).w % 8) (f := (acts.getD i default).n % 1000) (by omega) (by omega) (by omega)
  have hgr := hG.grant (by omega) (by omega) (by omega) hown
  have heq : ¬ Refused s ((acts.getD i default).r % 16) (1 + (acts.getD i default).w % 8) → _ := fun hR => grantF_of hG.v hown hR (by omega) (by omega)
  have href := fun hR => grantF_ref hG.v hown hR
  have ht := newX_t s ((acts.getD i default).r % 16) (1 + (acts.getD i default).w % 8) ((acts.getD i default).n % 1000)
  repeat' (first
    | (show OB _; first | exact OB.nil | refine OB.rfl ?_ | refine OB.tr ?_ | refine OB.grfl ?_ | refine OB.gtr ?_ | refine OB.self ?_ | refine OB.and ?_ | refine OB.cons ?_ ?_)
    | (show FK _ _ _ _ _ _ _ _; first | refine FK_seq ?_ | refine FK_blk ?_ | refine FK_fn ?_ | refine FK_nil ?_)
    | (show WK _ _ _ _ _ _ _ _; first
      | refine WK_keep rfl ?_
      | refine WK_seq ?_
      | refine WK_reg rfl ?_
      | refine WK_mreg rfl ?_
      | (fail)
      | refine WK_dreg rfl ?_
      | refine WK_block ?_
      | refine WK_ret ?_
      | refine WK_exit rfl ?_
      | refine WK_skip ?_
      | (refine WK_cond rfl ?_ ?_ <;> first | with_reducible exact skipTF | with_reducible exact skipFT | intro hc))
    | (show VX _ _ _ _ _ _ _; first
      | refine VX_run rfl rfl ?_ ?_
      | refine VX_nil ?_
      | (refine VX_alloc rfl ?_; intro b)
      | (refine VX_box rfl rfl ?_ ?_; rotate_left; intro b)
      | (refine VX_len rfl rfl ?_ ?_; rotate_left; intro hlen)
      | (refine VX_lenr rfl rfl ?_ ?_; rotate_left; intro hlen)
      | refine VX_iad rfl rfl rfl ?_ ?_ ?_
      | refine VX_slh rfl rfl rfl ?_ ?_ ?_
      | refine VX_sll rfl rfl rfl ?_ ?_ ?_
      | refine VX_slb rfl rfl rfl rfl ?_ ?_ ?_
      | (refine VX_mk0 rfl (by decide) ?_; intro b)
      | (refine VX_app0 rfl rfl ?_ ?_ ?_ (fun b u c => ?_))
      | (refine VX_app rfl rfl rfl ?_ ?_ ?_ (fun b u c => ?_))
      | refine VX_call rfl (by first | fail | exact new_ok _ _ | exact newR_ok _ _ | exact adv_ok _ _ | exact advR_ok _ _ | exact grant_ok _ _ _ _ | exact grantR_ok _ _ _ _ | exact slow_ok _ _ | exact slowR_ok _ _ | exact local_ok _ _ _ | exact localR_ok _ _ _ | exact isValid_ok _ _ | exact same_ok _ _ | exact around_ok _ _ (by omega) (by omega) | exact few60_ok _ _ | exact few80_ok _ _ | exact example_ok) ?_ ?_
      | refine VX_callv rfl rfl (by rfl) (by first | fail | exact new_ok _ _ | exact newR_ok _ _ | exact adv_ok _ _ | exact advR_ok _ _ | exact grant_ok _ _ _ _ | exact grantR_ok _ _ _ _ | exact slow_ok _ _ | exact slowR_ok _ _ | exact local_ok _ _ _ | exact localR_ok _ _ _ | exact isValid_ok _ _ | exact same_ok _ _ | exact around_ok _ _ (by omega) (by omega) | exact few60_ok _ _ | exact few80_ok _ _ | exact example_ok) ?_ ?_
      | refine VX_det rfl ?_ ?_
      | refine VX_ld1 rfl (by first | rfl | fail) ?_ (by first | fail | exact hT.g2 (by omega) | exact hT.g4 (by omega) | exact hT.st (by omega)) ?_ ?_
      | refine VX_lda rfl (by first | rfl | fail) ?_ (by first | fail | exact hT.g2 (by omega) | exact hT.g4 (by omega) | exact hT.st (by omega)) ?_ ?_
      | refine VX_st rfl rfl (by first | rfl | fail) ?_ (by rfl) (by first | fail | exact hT.g2 (by omega) | exact hT.g4 (by omega) | exact hT.st (by omega)) ?_ ?_)
    | (show VY _ _ _ _ _ _ _; first
      | refine VY_run rfl rfl ?_ ?_
      | refine VY_nil ?_
      | (refine VY_alloc rfl ?_; intro b)
      | (refine VY_box rfl rfl ?_ ?_; rotate_left; intro b)
      | refine VY_len rfl rfl ?_ ?_
      | refine VY_lenr rfl rfl ?_ ?_
      | refine VY_iad rfl rfl rfl ?_ ?_ ?_
      | refine VY_call rfl (by first | fail | exact new_ok _ _ | exact newR_ok _ _ | exact adv_ok _ _ | exact advR_ok _ _ | exact grant_ok _ _ _ _ | exact grantR_ok _ _ _ _ | exact slow_ok _ _ | exact slowR_ok _ _ | exact local_ok _ _ _ | exact localR_ok _ _ _ | exact isValid_ok _ _ | exact same_ok _ _ | exact around_ok _ _ (by omega) (by omega) | exact few60_ok _ _ | exact few80_ok _ _ | exact example_ok) ?_ ?_
      | refine VY_callv rfl rfl (by rfl) (by first | fail | exact new_ok _ _ | exact newR_ok _ _ | exact adv_ok _ _ | exact advR_ok _ _ | exact grant_ok _ _ _ _ | exact grantR_ok _ _ _ _ | exact slow_ok _ _ | exact slowR_ok _ _ | exact local_ok _ _ _ | exact localR_ok _ _ _ | exact isValid_ok _ _ | exact same_ok _ _ | exact around_ok _ _ (by omega) (by omega) | exact few60_ok _ _ | exact few80_ok _ _ | exact example_ok) ?_ ?_
      | refine VY_det rfl ?_ ?_
      | refine VY_ld1 rfl (by first | rfl | fail) ?_ (by first | fail | exact hT.g2 (by omega) | exact hT.g4 (by omega) | exact hT.st (by omega)) (by rfl) ?_ ?_
      | refine VY_lda rfl (by first | rfl | fail) ?_ (by first | fail | exact hT.g2 (by omega) | exact hT.g4 (by omega) | exact hT.st (by omega)) (by rfl) ?_ ?_
      | refine VY_st rfl rfl (by first | rfl | fail) ?_ (by rfl) (by first | fail | exact hT.g2 (by omega) | exact hT.g4 (by omega) | exact hT.st (by omega)) (by rfl) ?_ ?_)
    | (show List.all _ _ = true; rfl)
    | (show (_ : Nat) = _; rfl)
    | (show LoopW _ _ _ _ _; refine LoopW.intro rfl ?_)
    | (show retQ _ _ _ _ _; first | refine retQk_r rfl ?_ ?_ | refine retQk_n rfl ?_ ?_)
    | (show pureQ _ _ _ _ _ _; first | refine pureQk_r rfl ?_ ?_ | refine pureQk_n rfl ?_ ?_))
  try any_goals (intro hob;  first | (simp_all; done) | (simp only [decide_eq_true_eq, decide_eq_false_iff_not, Bool.not_true, Bool.not_false, Bool.not_eq_true', Bool.not_eq_false', Bool.and_eq_true, Bool.or_eq_true, Bool.and_eq_false_iff, Bool.or_eq_false_iff, Bool.true_and, Bool.and_true, Bool.false_or, Bool.or_false, Option.getD_some, Option.getD_none, forall_const, true_implies, ne_eq, eq_self, Int.toNat_natCast, Bool.xor_true, Bool.xor_false] at *; simp_all; done) | (simp only [decide_eq_true_eq, decide_eq_false_iff_not, Bool.not_true, Bool.not_false, Bool.not_eq_true', Bool.not_eq_false', Bool.and_eq_true, Bool.or_eq_true, Bool.and_eq_false_iff, Bool.or_eq_false_iff, Bool.true_and, Bool.and_true, Bool.false_or, Bool.or_false, Option.getD_some, Option.getD_none, forall_const, true_implies, ne_eq, eq_self, Int.toNat_natCast, Bool.xor_true, Bool.xor_false] at *; omega))
  all_goals (try simp only [Int.toNat_natCast, hW, hAdv] at hc)
  all_goals (try simp only [Int.toNat_natCast, hW, hAdv])
  any_goals omega
  any_goals (refine Sx.Fin.wk (by repeat' (first | exact Sub.refl _ | refine Sub.same ?_ | refine Sub.cons ?_)) ?_; repeat' (first | exact Wk.refl _ | refine Wk.tup ?_ | refine Wk.agg ?_ | exact WkL.nil | refine WkL.cons ?_ ?_ | exact Wk.nil | exact Wk.sl | exact Wk.own _))
  · simp at hc
  · have hlt : i < acts.length := by have h := ‹decide ((i : Int) < (acts.length : Int)) = true›; simpa using h
    refine ⟨acts.length - (i + 1), by omega, [(5, .lp 5 b5 0), (7, .lp 7 b7 0), (8, .sl false 5 (acts.map Act.cells)), (9, .v (.int .i64 ((i + 1 : Nat) : Int)))], _, by (rw [up1 hlt (hlen rfl)]; repeat' (first | exact WkRL.refl _ | refine WkRL.cons ?_ ?_ | exact Wk.refl _ | exact WkL.nil | refine WkL.cons ?_ ?_ | refine Wk.tup ?_ | refine Wk.agg ?_ | exact Wk.nil | exact Wk.sl | exact Wk.own _ | exact Wk.tag)), ?_, i + 1, by omega, rfl, _, tab, cs, hG.adv (n := (acts.getD i default).n % 60) (by omega) (by omega) (by omega), hT, rfl, rfl⟩
    repeat' (first | exact Sub.refl _ | refine Sub.same ?_ | refine Sub.cons ?_)
  · have hlt : i < acts.length := by have h := ‹decide ((i : Int) < (acts.length : Int)) = true›; simpa using h
    refine ⟨acts.length - (i + 1), by omega, [(5, .lp 5 b5 0), (7, .lp 7 b7 0), (8, .sl false 5 (acts.map Act.cells)), (9, .v (.int .i64 ((i + 1 : Nat) : Int)))], _, by (rw [up1 hlt (hlen rfl)]; repeat' (first | exact WkRL.refl _ | refine WkRL.cons ?_ ?_ | exact Wk.refl _ | exact WkL.nil | refine WkL.cons ?_ ?_ | refine Wk.tup ?_ | refine Wk.agg ?_ | exact Wk.nil | exact Wk.sl | exact Wk.own _ | exact Wk.tag)), ?_, i + 1, by omega, rfl, _, tab, cs, hG.skip, hT, rfl, rfl⟩
    repeat' (first | exact Sub.refl _ | refine Sub.same ?_ | refine Sub.cons ?_)
  · rename_i hne
    simp only [Int.toNat_natCast, hW] at hne
    have hR : ¬ Refused s ((acts.getD i default).r % 16) (1 + (acts.getD i default).w % 8) := fun hR => by rw [href hR] at hne; simp at hne
    rw [heq hR] at hc
    exfalso
    dsimp only at hc
    rw [i64w (n := (tab ((acts.getD i default).r % 16).toNat).e + 1) (by omega), i64w (n := s.now + s.len) (by omega), hnew.1, ht] at hc
    simp only [decide_eq_true_eq, decide_eq_false_iff_not, Bool.not_true, Bool.not_false, Bool.not_eq_true', Bool.not_eq_false', Bool.and_eq_true, Bool.or_eq_true, Bool.and_eq_false_iff, Bool.or_eq_false_iff, Bool.true_and, Bool.and_true, Bool.false_or, Bool.or_false, Option.getD_some, Option.getD_none, forall_const, true_implies, ne_eq, eq_self, Int.toNat_natCast, Bool.xor_true, Bool.xor_false, not_true_eq_false, false_or, or_false] at hc
    omega
  · have hlt : i < acts.length := by have h := ‹decide ((i : Int) < (acts.length : Int)) = true›; simpa using h
    rename_i hne
    simp only [Int.toNat_natCast, hW] at hne
    have hR : ¬ Refused s ((acts.getD i default).r % 16) (1 + (acts.getD i default).w % 8) := fun hR => by rw [href hR] at hne; simp at hne
    simp only [heq hR]
    refine ⟨acts.length - (i + 1), by omega, [(5, .lp 5 b5 0), (7, .lp 7 b7 0), (8, .sl false 5 (acts.map Act.cells)), (9, .v (.int .i64 ((i + 1 : Nat) : Int)))], _, by (rw [up1 hlt (hlen rfl)]; repeat' (first | exact WkRL.refl _ | refine WkRL.cons ?_ ?_ | exact Wk.refl _ | exact WkL.nil | refine WkL.cons ?_ ?_ | refine Wk.tup ?_ | refine Wk.agg ?_ | exact Wk.nil | exact Wk.sl | exact Wk.own _ | exact Wk.tag)), ?_, i + 1, by omega, rfl, _, _, _, hgr, ⟨rfl⟩, rfl, rfl⟩
    repeat' (first | exact Sub.refl _ | refine Sub.same ?_ | refine Sub.cons ?_)
end Go.Proofs.Ytcibmkacgfhnkaa
