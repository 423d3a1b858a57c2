/- The plain law of LeaseExcludes. -/
import Derived.Test.YtcibmkacgfhnkaaFno
set_option linter.unusedSimpArgs false
set_option linter.unusedVariables false
namespace Go.Proofs.Ytcibmkacgfhnkaa
open Go.Sx Go.Proofs

theorem slow_add {s : St} (hv : s.Valid) {a b : Int} (ha : 0 ≤ a) (hb : 0 ≤ b) (h : a + b ≤ 1099511627776) : slowF s (a + b) ≤ slowF s a + slowF s b := by
  have hB := hv.bd
  rw [slowF_of hv (by omega) h, slowF_of hv ha (by omega), slowF_of hv hb (by omega)]
  have h1 := mul500 ha hB.2.2.2.2.1 hB.2.2.2.2.2
  have h2 := mul500 hb hB.2.2.2.2.1 hB.2.2.2.2.2
  have e : (a + b) * s.drift = a * s.drift + b * s.drift := Int.add_mul _ _ _
  rw [e]
  generalize a * s.drift = A at *
  generalize b * s.drift = B at *
  omega
theorem slow_mono {s : St} (hv : s.Valid) {a b : Int} (ha : 0 ≤ a) (hb : a ≤ b) (h : b ≤ 1099511627776) : slowF s a ≤ slowF s b := by
  have hB := hv.bd
  rw [slowF_of hv ha (by omega), slowF_of hv (by omega) h]
  obtain ⟨c, rfl⟩ : ∃ c, b = a + c := ⟨b - a, by omega⟩
  have h2 := mul500 (n := c) (by omega) hB.2.2.2.2.1 hB.2.2.2.2.2
  have h1 := mul500 ha hB.2.2.2.2.1 hB.2.2.2.2.2
  have e : (a + c) * s.drift = a * s.drift + c * s.drift := Int.add_mul _ _ _
  rw [e]
  generalize a * s.drift = A at *
  generalize c * s.drift = B at *
  omega
theorem slow_zero {s : St} : slowF s 0 = 0 := by unfold slowF; split <;> simp
theorem slow_same {s s' : St} (hv : s.Valid) (hv' : s'.Valid) (h : s'.drift = s.drift) (n : Int) : slowF s' n = slowF s n := by
  unfold slowF
  simp only [hv, hv', true_and, h]

/-- What a worker recorded is over by its clock, or it is the last lease of the range, and not over later than that. -/
def Rec (s : St) (ck : Nat → Int) (own : Nat → Nat → Lease) (k r : Nat) : Prop :=
  (own k r).t ≤ ck k ∨ ∃ y ∈ s.last, y.r = r ∧ y.w = k ∧ s.now ≤ y.t ∧ (own k r).t - ck k ≤ slowF s (y.t - s.now)

structure Inv5 (i : Nat) (s : St) (ck : Nat → Int) (own : Nat → Nat → Lease) : Prop where
  v : s.Valid
  now : s.now ≤ 40 * i
  len : s.len ≤ 100
  ep : Ep s i
  ckb : ∀ k, k < 9 → 0 ≤ ck k ∧ ck k ≤ 1000 + 60 * i
  rc : ∀ k r, k < 9 → r < 16 → Rec s ck own k r

section
variable {i : Nat} {s : St} {ck : Nat → Int} {own : Nat → Nat → Lease}

theorem Inv5.excl (h : Inv5 i s ck own) : Excl ck own := by
  intro r k j hr _ hk8 _ hj8 hk hj
  have h1 : ∀ k, k < 9 → Live ck own r k → ∃ y ∈ s.last, y.r = r ∧ y.w = k := fun k hk hl => by
    rcases h.rc k r hk hr with h1 | ⟨y, hy, h1, h2, _⟩
    · unfold Live at hl; omega
    · exact ⟨y, hy, h1, h2⟩
  obtain ⟨y, hy, e1, e2⟩ := h1 k (by omega) hk
  obtain ⟨z, hz, f1, f2⟩ := h1 j (by omega) hj
  have := uniq h.v.2.2.2 hy hz (by omega)
  subst this
  omega

theorem Inv5.up (h : Inv5 i s ck own) : Inv5 (i + 1) s ck own :=
  ⟨h.v, by have := h.now; omega, h.len, h.ep.up, fun k hk => by have := h.ckb k hk; omega, h.rc⟩

theorem Inv5.adv (h : Inv5 i s ck own) (hi : i ≤ 1000) {n w j : Int} (h0 : 0 ≤ n) (h1 : n ≤ 39) (hj0 : 0 ≤ j) (hj1 : j ≤ 2) : Inv5 (i + 1) { s with now := s.now + n } (ckA ck (slowF s n) w j 9) own := by
  have hn := h.now
  have hl := h.len
  have hB := h.v.bd
  have hs := slowF_bd h.v h0
  have hv' := adv_valid h.v h0 (by omega)
  have hck : ∀ k, k < 9 → ck k + slowF s n ≤ ckA ck (slowF s n) w j 9 k ∧ ckA ck (slowF s n) w j 9 k ≤ ck k + slowF s n + 2 := fun k hk => by
    unfold ckA; rw [if_pos hk]; split <;> omega
  refine ⟨hv', by dsimp only; omega, hl, (fun y hy => h.ep.up y hy), fun k hk => ?_, fun k r hk hr => ?_⟩
  · have := h.ckb k hk; have := hck k hk; omega
  · have hc := hck k hk
    rcases h.rc k r hk hr with h2 | ⟨y, hy, e1, e2, e3, e4⟩
    · left; omega
    · have hyt := h.v.2.2.1 y hy
      rcases Int.le_total n (y.t - s.now) with h3 | h3
      · right
        refine ⟨y, hy, e1, e2, by dsimp only; omega, ?_⟩
        rw [slow_same h.v hv' rfl]
        have := slow_add h.v (a := y.t - (s.now + n)) (b := n) (by omega) h0 (by omega)
        rw [show y.t - (s.now + n) + n = y.t - s.now from by omega] at this
        dsimp only
        omega
      · left
        have := slow_mono h.v (a := y.t - s.now) (b := n) (by omega) h3 (by omega)
        omega

theorem Inv5.jump (h : Inv5 i s ck own) {w : Nat} {x : Int} (h0 : ck w ≤ x) (h1 : x ≤ ck w + 20) : Inv5 (i + 1) s (updC ck w x) own := by
  have hc : ∀ k, ck k ≤ updC ck w x k ∧ updC ck w x k ≤ ck k + 20 := fun k => by
    unfold updC; split
    · rename_i e; subst e; omega
    · omega
  refine ⟨h.v, by have := h.now; omega, h.len, h.ep.up, fun k hk => by have := h.ckb k hk; have := hc k; omega, fun k r hk hr => ?_⟩
  have := hc k
  rcases h.rc k r hk hr with h2 | ⟨y, hy, e1, e2, e3, e4⟩
  · left; omega
  · exact .inr ⟨y, hy, e1, e2, e3, by omega⟩

theorem Inv5.grant (h : Inv5 i s ck own) (hi : i ≤ 1000) {r w : Nat} {f : Int} (hr : r < 16) (hw0 : 1 ≤ w) (hw : w < 9) (ho : (Lease.mk r w 1 0 f).Own) (hn : ¬ Refused s r w) :
    Inv5 (i + 1) { s with last := outF s.last r (newX s r w f) } ck (updO own w r (localF { s with last := outF s.last r (newX s r w f) } (newX s r w f) (ck w))) := by
  have hnow := h.now
  have hlen := h.len
  have hB := h.v.bd
  have he := h.ep.new (r := r) (w := w) (f := f)
  have hup : Up s.last := h.v.2.2.2
  have hv' := grant_valid h.v ho (by omega) (by omega)
  have hxo := newX_own h.v ho (by omega) (by omega)
  have hxt := newX_t s r w f
  have hxr := newX_r s r w f
  have hxw := newX_w s r w f
  have hcw := h.ckb w hw
  generalize hX : newX s r w f = X at *
  have hloc : (localF { s with last := outF s.last r X } X (ck w)).t = ck w + slowF { s with last := outF s.last r X } (X.t - s.now) := by
    rw [localF, if_pos ⟨hv', hxo, ⟨by omega, by omega⟩, by dsimp only; omega, by dsimp only; omega⟩]
  refine ⟨hv', by dsimp only; omega, hlen, (by have := h.ep.grant (r := r) (w := w) (f := f) h.v; rw [hX] at this; exact this), fun k hk => by have := h.ckb k hk; omega, fun k q hk hq => ?_⟩
  by_cases hkw : k = w
  · subst hkw
    by_cases hqr : q = r
    · subst hqr
      right
      refine ⟨X, (mem_outF hup).2 (.inl rfl), hxr, hxw, by dsimp only; omega, ?_⟩
      simp only [updO, upd, if_true]
      rw [hloc]
      omega
    · have e : updO own k r (localF { s with last := outF s.last r X } X (ck k)) k q = own k q := by simp [updO, upd, hqr]
      unfold Rec
      rw [e]
      rcases h.rc k q hk hq with h2 | ⟨y, hy, e1, e2, e3, e4⟩
      · exact .inl h2
      · refine .inr ⟨y, (mem_outF hup).2 (.inr ⟨hy, by omega⟩), e1, e2, e3, ?_⟩
        rw [slow_same h.v hv' rfl]
        exact e4
  · have e : updO own w r (localF { s with last := outF s.last r X } X (ck w)) k q = own k q := by simp [updO, hkw]
    unfold Rec
    rw [e]
    rcases h.rc k q hk hq with h2 | ⟨y, hy, e1, e2, e3, e4⟩
    · exact .inl h2
    · by_cases hqr : q = r
      · subst hqr
        left
        have hh : Had s.last q := by
          refine Classical.byContradiction fun hh => ?_
          exact not_had hup hh hy e1
        have hy2 : s.last.getD (kF s.last q) default = y := uniq hup (had_mem hh) hy (by rw [hh.2]; exact e1.symm)
        have hyt : ¬ s.now < y.t := fun hlt => hn ⟨hh, by rw [hy2]; omega, by rw [hy2]; exact hlt⟩
        have : y.t - s.now = 0 := by omega
        rw [this, slow_zero] at e4
        omega
      · refine .inr ⟨y, (mem_outF hup).2 (.inr ⟨hy, by omega⟩), e1, e2, e3, ?_⟩
        rw [slow_same h.v hv' rfl]
        exact e4

theorem Inv5.zero {n d : Int} (hv : (St.mk 0 n d []).Valid) (h : n ≤ 100) (hc : ∀ k, k < 9 → 0 ≤ ck k ∧ ck k ≤ 1000) : Inv5 0 ⟨0, n, d, []⟩ ck (fun _ _ => Lease.zero) :=
  ⟨hv, by simp, h, (fun y hy => by cases hy), fun k hk => by have := hc k hk; omega, fun k r hk hr => .inl (by have := hc k hk; simp only [Lease.zero]; omega)⟩
end
end Go.Proofs.Ytcibmkacgfhnkaa
