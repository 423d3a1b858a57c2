/- Plain facts on granting: what stays valid, which leases a state has. -/
import Derived.Test.YtcibmkacgfhnkaaFnl
set_option linter.unusedSimpArgs false
set_option linter.unusedVariables false
namespace Go.Proofs.Ytcibmkacgfhnkaa
open Go.Sx Go.Proofs

abbrev Up (ls : List Lease) : Prop := ls.Pairwise (fun a b => a.r < b.r)

theorem up_lt {ls : List Lease} (h : Up ls) {i j : Nat} (hi : i < ls.length) (hji : j < i) : (ls.getD j default).r < (ls.getD i default).r := by
  rw [getD_eq hi, getD_eq (Nat.lt_trans hji hi)]
  exact List.pairwise_iff_getElem.1 h _ _ _ _ hji
theorem take_lt {ls : List Lease} {r : Int} {z : Lease} (hz : z ∈ ls.take (kF ls r)) : z.r < r := by
  obtain ⟨i, hi, rfl⟩ := List.getElem_of_mem hz
  have hi' : i < kF ls r := by simp at hi; omega
  have hl : i < ls.length := by have := kF_le ls r; omega
  have := kF_lt hi'
  rw [getD_eq hl] at this
  simpa using this
theorem drop_gt {ls : List Lease} (h : Up ls) {r : Int} {z : Lease} (hz : z ∈ ls.drop (nextF ls r)) : r < z.r := by
  obtain ⟨i, hi, rfl⟩ := List.getElem_of_mem hz
  have hn : kF ls r ≤ nextF ls r := by unfold nextF; split <;> omega
  have hl : nextF ls r + i < ls.length := by simp at hi; omega
  have e : (ls.drop (nextF ls r))[i] = ls.getD (nextF ls r + i) default := by rw [getD_eq hl]; simp
  rw [e]
  have hk : kF ls r < ls.length := by omega
  have hg := kF_ge hk
  rcases Nat.lt_or_ge (kF ls r) (nextF ls r + i) with h1 | h1
  · have := up_lt h hl h1; omega
  · have e2 : nextF ls r + i = kF ls r := by omega
    have hh : ¬ Had ls r := fun hh => by rw [nextF, if_pos hh] at e2; omega
    rw [e2]
    have : (ls.getD (kF ls r) default).r ≠ r := fun e => hh ⟨hk, e⟩
    omega
theorem split_at (ls : List Lease) (r : Int) : ls = ls.take (kF ls r) ++ ((if Had ls r then [ls.getD (kF ls r) default] else []) ++ ls.drop (nextF ls r)) := by
  unfold nextF
  split
  · rename_i h
    rw [List.singleton_append, ← drop_get h.1, List.take_append_drop]
  · rw [List.nil_append, List.take_append_drop]
theorem mem_outF {ls : List Lease} (h : Up ls) {r : Int} {x z : Lease} : z ∈ outF ls r x ↔ z = x ∨ (z ∈ ls ∧ z.r ≠ r) := by
  unfold outF
  constructor
  · intro hz
    rcases List.mem_append.1 hz with hz | hz
    · exact .inr ⟨List.mem_of_mem_take hz, by have := take_lt hz; omega⟩
    · rcases List.mem_cons.1 hz with hz | hz
      · exact .inl hz
      · exact .inr ⟨List.mem_of_mem_drop hz, by have := drop_gt h hz; omega⟩
  · rintro (rfl | ⟨hz, hr⟩)
    · simp
    · rw [split_at ls r] at hz
      rcases List.mem_append.1 hz with hz | hz
      · exact List.mem_append_left _ hz
      · rcases List.mem_append.1 hz with hz | hz
        · split at hz
          · rename_i hh
            rw [List.mem_singleton.1 hz] at hr
            exact absurd hh.2 hr
          · cases hz
        · exact List.mem_append_right _ (List.mem_cons_of_mem _ hz)
theorem not_had {ls : List Lease} (h : Up ls) {r : Int} (hn : ¬ Had ls r) {z : Lease} (hz : z ∈ ls) : z.r ≠ r := by
  rw [split_at ls r, if_neg hn, List.nil_append] at hz
  rcases List.mem_append.1 hz with hz | hz
  · have := take_lt hz; omega
  · have := drop_gt h hz; omega
theorem had_mem {ls : List Lease} {r : Int} (h : Had ls r) : ls.getD (kF ls r) default ∈ ls := getD_mem h.1
theorem up_outF {ls : List Lease} (h : Up ls) {r : Int} {x : Lease} (hx : x.r = r) : Up (outF ls r x) := by
  unfold outF
  refine List.pairwise_append.2 ⟨h.sublist (List.take_sublist _ _), List.pairwise_cons.2 ⟨fun z hz => by have := drop_gt h hz; omega, h.sublist (List.drop_sublist _ _)⟩, fun a ha b hb => ?_⟩
  have h1 := take_lt ha
  rcases List.mem_cons.1 hb with rfl | hb
  · omega
  · have := drop_gt h hb; omega
theorem uniq {ls : List Lease} (h : Up ls) {y z : Lease} (hy : y ∈ ls) (hz : z ∈ ls) (e : y.r = z.r) : y = z := by
  obtain ⟨i, hi, rfl⟩ := List.getElem_of_mem hy
  obtain ⟨j, hj, rfl⟩ := List.getElem_of_mem hz
  rcases Nat.lt_trichotomy i j with h1 | h1 | h1
  · have := List.pairwise_iff_getElem.1 h _ _ hi hj h1; omega
  · subst h1; rfl
  · have := List.pairwise_iff_getElem.1 h _ _ hj hi h1; omega

theorem newX_r (s : St) (r w f : Int) : (newX s r w f).r = r := by unfold newX; split <;> rfl
theorem newX_w (s : St) (r w f : Int) : (newX s r w f).w = w := by unfold newX; split <;> rfl
theorem newX_own {s : St} {r w f : Int} (hv : s.Valid) (ho : (Lease.mk r w 1 0 f).Own) (h1 : s.now + s.len ≤ 1099511627776) (h2 : (newX s r w f).e ≤ 1099511627776) : (newX s r w f).Own := by
  have hB := hv.bd
  unfold newX at h2 ⊢
  split
  · rename_i hh
    rw [if_pos hh] at h2
    have := hv.2.1 _ (had_mem hh)
    simp only [Tick, Lease.Own, St.Num] at *
    omega
  · simp only [Tick, Lease.Own, St.Num] at *
    omega
/-- The state behind a grant is valid. -/
theorem grant_valid {s : St} {r w f : Int} (hv : s.Valid) (ho : (Lease.mk r w 1 0 f).Own) (h1 : s.now + s.len ≤ 1099511627776) (h2 : (newX s r w f).e ≤ 1099511627776) : St.Valid { s with last := outF s.last r (newX s r w f) } := by
  have hB := hv.bd
  have hup : Up s.last := hv.2.2.2
  refine ⟨hv.1, (show ∀ x ∈ _, Lease.Own x from fun z hz => ?_), (fun z hz => ?_), up_outF hup (newX_r ..)⟩
  · rcases (mem_outF hup).1 hz with rfl | ⟨hz, _⟩
    · exact newX_own hv ho h1 h2
    · exact hv.2.1 z hz
  · rcases (mem_outF hup).1 hz with rfl | ⟨hz, _⟩
    · rw [newX_t]; exact Int.le_refl _
    · exact hv.2.2.1 z hz
theorem adv_valid {s : St} {n : Int} (hv : s.Valid) (h0 : 0 ≤ n) (h1 : s.now + n ≤ 1099511627776) : St.Valid { s with now := s.now + n } := by
  have hN := hv.1
  refine ⟨?_, hv.2.1, (fun z hz => ?_), hv.2.2.2⟩
  · simp only [Tick, Lease.Own, St.Num] at *; omega
  · have := hv.2.2.1 z hz
    dsimp only at *
    omega
/-- Epochs are at most n. -/
def Ep (s : St) (n : Nat) : Prop := ∀ y ∈ s.last, y.e ≤ n
theorem Ep.new {s : St} {r w f : Int} {n : Nat} (h : Ep s n) : (newX s r w f).e ≤ (n + 1 : Nat) := by
  unfold newX
  split
  · rename_i hh; have := h _ (had_mem hh); dsimp only; omega
  · dsimp only; omega
theorem Ep.grant {s : St} {r w f : Int} {n : Nat} (hv : s.Valid) (h : Ep s n) : Ep { s with last := outF s.last r (newX s r w f) } (n + 1) := fun z hz => by
  rcases (mem_outF hv.2.2.2).1 hz with rfl | ⟨hz, _⟩
  · exact h.new
  · have := h z hz; omega
theorem Ep.up {s : St} {n : Nat} (h : Ep s n) : Ep s (n + 1) := fun z hz => by have := h z hz; omega
end Go.Proofs.Ytcibmkacgfhnkaa
