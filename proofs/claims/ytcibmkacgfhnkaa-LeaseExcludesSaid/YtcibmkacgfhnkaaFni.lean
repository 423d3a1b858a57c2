/- Granting a lease, by the reference. -/
import Derived.Test.YtcibmkacgfhnkaaFnh
set_option linter.unusedSimpArgs false
set_option linter.unusedVariables false
namespace Go.Proofs.Ytcibmkacgfhnkaa
open Go.Sx Go.Proofs

theorem find_ok' (ls : List Lease) (r : Int) : Pure Try.prog 30 [.sl false 5 (ls.map Lease.cells), .v (.int .i64 r)] (.v (.int .i64 (kF ls r))) := find_ok ls r
theorem ones (ls : List Lease) : (ls.map Lease.cells).all (fun r => r.all AV.one) = true := by
  rw [List.all_eq_true]
  intro x hx
  obtain ⟨y, _, rfl⟩ := List.mem_map.1 hx
  rfl
theorem ones' (ls : List Lease) (a b : Nat) : ((((ls.map Lease.cells).take b).drop a).all (fun r => r.all AV.one)) = true := by
  rw [← List.map_take, ← List.map_drop]; exact ones _
theorem max_ite' (a b : Int) : (if false = true then if b < a then b else a else if b > a then b else a) = max a b := by
  rw [if_neg (fun h => nomatch h)]; split <;> omega

theorem grantR_ok (s : St) (r w f : Int) : Pure Try.prog 14 [.agg s.cells, .v (.int .i64 r), .v (.int .i64 w), .v (.int .i64 f)] (.tup [.agg (grantF s r w f).1.cells, .agg (grantF s r w f).2.1.cells, E (grantF s r w f).2.2]) := by
  refine Pure.runk (fun d => bif Nat.beq d 110 then 1 else 0) Try.func14 comp14 era14 (by simp [c14]) fun σ => ?_
  repeat' (first
    | (show OB _; first | exact OB.nil | refine OB.rfl ?_ | refine OB.tr ?_ | refine OB.grfl ?_ | refine OB.gtr ?_ | refine OB.self ?_ | refine OB.and ?_ | refine OB.cons ?_ ?_)
    | (show FK _ _ _ _ _ _ _ _; first | refine FK_seq ?_ | refine FK_blk ?_ | refine FK_fn ?_ | refine FK_nil ?_)
    | (show WK _ _ _ _ _ _ _ _; first
      | refine WK_keep rfl ?_
      | refine WK_seq ?_
      | refine WK_reg rfl ?_
      | refine WK_mreg rfl ?_
      | (fail)
      | refine WK_dreg rfl ?_
      | refine WK_block ?_
      | refine WK_ret ?_
      | refine WK_exit rfl ?_
      | refine WK_skip ?_
      | (refine WK_cond rfl ?_ ?_ <;> first | with_reducible exact skipTF | with_reducible exact skipFT | intro hc))
    | (show VX _ _ _ _ _ _ _; first
      | refine VX_run rfl rfl ?_ ?_
      | refine VX_nil ?_
      | (refine VX_alloc rfl ?_; intro b)
      | (refine VX_box rfl rfl ?_ ?_; rotate_left; intro b)
      | (refine VX_len rfl rfl ?_ ?_; rotate_left; intro hlen)
      | (refine VX_lenr rfl rfl ?_ ?_; rotate_left; intro hlen)
      | refine VX_iad rfl rfl rfl ?_ ?_ ?_
      | refine VX_slh rfl rfl rfl ?_ ?_ ?_
      | refine VX_sll rfl rfl rfl ?_ ?_ ?_
      | refine VX_slb rfl rfl rfl rfl ?_ ?_ ?_
      | (refine VX_mk0 rfl (by decide) ?_; intro b)
      | (refine VX_app0 rfl rfl ?_ ?_ ?_ (fun b u c => ?_))
      | (refine VX_app rfl rfl rfl ?_ ?_ ?_ (fun b u c => ?_))
      | refine VX_call rfl (by first | fail | exact find_ok' _ _ | exact tick_ok _ | exact tickR_ok _ | exact own_ok _ | exact ownR_ok _ | exact own_ok' _ _ _ _ _ | exact ownR_ok' _ _ _ _ _ | exact all_ok _ | exact valid_ok _ | exact stateR_ok _ | exact find_ok' _ _) ?_ ?_
      | refine VX_callv rfl rfl (by rfl) (by first | fail | exact find_ok' _ _ | exact tick_ok _ | exact tickR_ok _ | exact own_ok _ | exact ownR_ok _ | exact own_ok' _ _ _ _ _ | exact ownR_ok' _ _ _ _ _ | exact all_ok _ | exact valid_ok _ | exact stateR_ok _ | exact find_ok' _ _) ?_ ?_
      | refine VX_det rfl ?_ ?_
      | refine VX_ld1 rfl (by first | rfl | fail) ?_ (by first | fail | fail) ?_ ?_
      | refine VX_lda rfl (by first | rfl | fail) ?_ (by first | fail | fail) ?_ ?_
      | refine VX_st rfl rfl (by first | rfl | fail) ?_ (by rfl) (by first | fail | fail) ?_ ?_)
    | (show VY _ _ _ _ _ _ _; first
      | refine VY_run rfl rfl ?_ ?_
      | refine VY_nil ?_
      | (refine VY_alloc rfl ?_; intro b)
      | (refine VY_box rfl rfl ?_ ?_; rotate_left; intro b)
      | refine VY_len rfl rfl ?_ ?_
      | refine VY_lenr rfl rfl ?_ ?_
      | refine VY_iad rfl rfl rfl ?_ ?_ ?_
      | refine VY_call rfl (by first | fail | exact find_ok' _ _ | exact tick_ok _ | exact tickR_ok _ | exact own_ok _ | exact ownR_ok _ | exact own_ok' _ _ _ _ _ | exact ownR_ok' _ _ _ _ _ | exact all_ok _ | exact valid_ok _ | exact stateR_ok _ | exact find_ok' _ _) ?_ ?_
      | refine VY_callv rfl rfl (by rfl) (by first | fail | exact find_ok' _ _ | exact tick_ok _ | exact tickR_ok _ | exact own_ok _ | exact ownR_ok _ | exact own_ok' _ _ _ _ _ | exact ownR_ok' _ _ _ _ _ | exact all_ok _ | exact valid_ok _ | exact stateR_ok _ | exact find_ok' _ _) ?_ ?_
      | refine VY_det rfl ?_ ?_
      | refine VY_ld1 rfl (by first | rfl | fail) ?_ (by first | fail | fail) (by rfl) ?_ ?_
      | refine VY_lda rfl (by first | rfl | fail) ?_ (by first | fail | fail) (by rfl) ?_ ?_
      | refine VY_st rfl rfl (by first | rfl | fail) ?_ (by rfl) (by first | fail | fail) (by rfl) ?_ ?_)
    | (show List.all _ _ = true; rfl)
    | (show (_ : Nat) = _; rfl)
    | (show LoopW _ _ _ _ _; refine LoopW.intro rfl ?_)
    | (show retQ _ _ _ _ _; first | refine retQk_r rfl ?_ ?_ | refine retQk_n rfl ?_ ?_)
    | (show pureQ _ _ _ _ _ _; first | refine pureQk_r rfl ?_ ?_ | refine pureQk_n rfl ?_ ?_))
  try any_goals (intro hob;  first | (simp_all; done) | (simp only [decide_eq_true_eq, decide_eq_false_iff_not, Bool.not_true, Bool.not_false, Bool.not_eq_true', Bool.not_eq_false', Bool.and_eq_true, Bool.or_eq_true, Bool.and_eq_false_iff, Bool.or_eq_false_iff, Bool.true_and, Bool.and_true, Bool.false_or, Bool.or_false, Option.getD_some, Option.getD_none, forall_const, true_implies, ne_eq, eq_self, Int.toNat_natCast, Bool.xor_true, Bool.xor_false] at *; simp_all; done) | (simp only [decide_eq_true_eq, decide_eq_false_iff_not, Bool.not_true, Bool.not_false, Bool.not_eq_true', Bool.not_eq_false', Bool.and_eq_true, Bool.or_eq_true, Bool.and_eq_false_iff, Bool.or_eq_false_iff, Bool.true_and, Bool.and_true, Bool.false_or, Bool.or_false, Option.getD_some, Option.getD_none, forall_const, true_implies, ne_eq, eq_self, Int.toNat_natCast, Bool.xor_true, Bool.xor_false] at *; omega))
  all_goals (try simp only [decide_eq_true_eq, decide_eq_false_iff_not, Bool.not_true, Bool.not_false, Bool.not_eq_true', Bool.not_eq_false', Bool.and_eq_true, Bool.or_eq_true, Bool.and_eq_false_iff, Bool.or_eq_false_iff, Bool.true_and, Bool.and_true, Bool.false_or, Bool.or_false, Option.getD_some, Option.getD_none, forall_const, true_implies, ne_eq, eq_self, Int.toNat_natCast, Bool.xor_true, Bool.xor_false] at *)
  · rw [grantF, if_pos (by intro h; rcases hc with hc | hc; exact hc h.1; exact hc h.2)]
    (refine Sx.Fin.wk (by repeat' (first | exact Sub.refl _ | refine Sub.same ?_ | refine Sub.cons ?_)) ?_; repeat' (first | exact Wk.refl _ | refine Wk.tup ?_ | refine Wk.agg ?_ | exact WkL.nil | refine WkL.cons ?_ ?_ | exact Wk.nil | exact Wk.sl | exact Wk.own _))
  all_goals (have hok : s.Valid ∧ (Lease.mk r w 1 0 f).Own := by assumption)
  all_goals (have hv := hok.1)
  all_goals (have hB := hv.bd)
  all_goals (have h16 := hv.len16)
  all_goals (have hk := kF_le s.last r)
  all_goals (have hw : IntKind.i64.wrap (s.now + s.len) = s.now + s.len := i64w (by omega))
  all_goals (have hwk : IntKind.i64.wrap ((kF s.last r : Int) + 1) = ((kF s.last r + 1 : Nat) : Int) := i64w (by omega))
  all_goals (have hwe : kF s.last r < s.last.length → IntKind.i64.wrap ((s.last.getD (kF s.last r) default).e + 1) = (s.last.getD (kF s.last r) default).e + 1 := fun h => i64w (by have := hv.2.1 _ (getD_mem h); simp only [Lease.Own, Tick] at this; omega))
  all_goals (try rw [hwk])
  all_goals (try rw [Int.toNat_natCast])
  any_goals ((try simp only [List.length_append, List.length_cons, List.length_nil, List.length_drop, List.length_take, List.length_map]); omega)
  any_goals exact ones _
  · rw [grantF, if_neg (fun h => h hok), if_pos ⟨⟨by omega, hc.1.1.2⟩, hc.1.2, hc.2⟩]
    (refine Sx.Fin.wk (by repeat' (first | exact Sub.refl _ | refine Sub.same ?_ | refine Sub.cons ?_)) ?_; repeat' (first | exact Wk.refl _ | refine Wk.tup ?_ | refine Wk.agg ?_ | exact WkL.nil | refine WkL.cons ?_ ?_ | exact Wk.nil | exact Wk.sl | exact Wk.own _))
  · rename_i hr hh
    have hh' : Had s.last r := ⟨by omega, hh.2⟩
    rw [hw, hwe hh'.1] at hc
    rw [grantF, if_neg (fun h => h hok), if_neg (fun hq => ?_), if_pos (by rw [newX, if_pos hh']; exact hc)]
    (refine Sx.Fin.wk (by repeat' (first | exact Sub.refl _ | refine Sub.same ?_ | refine Sub.cons ?_)) ?_; repeat' (first | exact Wk.refl _ | refine Wk.tup ?_ | refine Wk.agg ?_ | exact WkL.nil | refine WkL.cons ?_ ?_ | exact Wk.nil | exact Wk.sl | exact Wk.own _))
    rcases hr with (hr | hr) | hr
    · omega
    · exact hq.2.1 hr
    · exact hr hq.2.2
  · rename_i hr hh
    have hh' : Had s.last r := ⟨by omega, hh.2⟩
    rw [hw, hwe hh'.1] at hc
    have e : newX s r w f = ⟨r, w, (s.last.getD (kF s.last r) default).e + 1, s.now + s.len, max f (s.last.getD (kF s.last r) default).f⟩ := by rw [newX, if_pos hh']
    rw [grantF, if_neg (fun h => h hok), if_neg (fun hq => ?_), if_neg (by rw [e]; dsimp only; omega), outF, nextF, if_pos hh', e, max_ite', hw, hwe hh'.1]
    (refine Sx.Fin.wk (by repeat' (first | exact Sub.refl _ | refine Sub.same ?_ | refine Sub.cons ?_)) ?_; repeat' (first | exact Wk.refl _ | refine Wk.tup ?_ | refine Wk.agg ?_ | exact WkL.nil | refine WkL.cons ?_ ?_ | exact Wk.nil | exact Wk.sl | exact Wk.own _))
    · exact Wk.ownr (by simp [Lease.cells, List.map_take, List.map_drop])
    rcases hr with (hr | hr) | hr
    · omega
    · exact hq.2.1 hr
    · exact hr hq.2.2
  · rename_i hr hh
    have hh' : ¬ Had s.last r := fun hq => hh.elim (fun h => h (by have := hq.1; omega)) (fun h => h hq.2)
    have e : newX s r w f = ⟨r, w, 1, s.now + s.len, f⟩ := by rw [newX, if_neg hh']
    rw [hw] at hc
    rw [grantF, if_neg (fun h => h hok), if_neg (fun hq => hh' hq.1), if_pos (by rw [e]; exact hc)]
    (refine Sx.Fin.wk (by repeat' (first | exact Sub.refl _ | refine Sub.same ?_ | refine Sub.cons ?_)) ?_; repeat' (first | exact Wk.refl _ | refine Wk.tup ?_ | refine Wk.agg ?_ | exact WkL.nil | refine WkL.cons ?_ ?_ | exact Wk.nil | exact Wk.sl | exact Wk.own _))
  · rename_i hr hh
    have hh' : ¬ Had s.last r := fun hq => hh.elim (fun h => h (by have := hq.1; omega)) (fun h => h hq.2)
    have e : newX s r w f = ⟨r, w, 1, s.now + s.len, f⟩ := by rw [newX, if_neg hh']
    rw [hw] at hc
    rw [grantF, if_neg (fun h => h hok), if_neg (fun hq => hh' hq.1), if_neg (by rw [e]; dsimp only; omega), outF, nextF, if_neg hh', e, hw]
    (refine Sx.Fin.wk (by repeat' (first | exact Sub.refl _ | refine Sub.same ?_ | refine Sub.cons ?_)) ?_; repeat' (first | exact Wk.refl _ | refine Wk.tup ?_ | refine Wk.agg ?_ | exact WkL.nil | refine WkL.cons ?_ ?_ | exact Wk.nil | exact Wk.sl | exact Wk.own _))
    exact Wk.ownr (by simp [Lease.cells, List.map_take, List.map_drop])
end Go.Proofs.Ytcibmkacgfhnkaa
