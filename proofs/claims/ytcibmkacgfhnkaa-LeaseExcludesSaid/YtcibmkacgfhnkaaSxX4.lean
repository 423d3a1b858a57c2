/-
  The layer Sx, twenty-second part: loads and stores at a place that is not a literal: what lies there is told by a lemma.
-/
import Derived.Test.YtcibmkacgfhnkaaSxX3
namespace Go.Sx
open Go.RowKit

section
variable {P : Program} {N : Nat} {cfg : Nat → Nat} {K : Regs → Store → Prop} {E : List PanicEntry → Store → Prop} {σ : Store} {l : List CI} {d n : Nat} {v y : AV} {xr : XR} {ps : List Prop} {g : Option (Nat × Bool)} {og : Option Bool} {als cf : List Nat} {ix : Nat} {ld : List CD}
  {t b b' o : Nat} {cs cs' ys l' : List AV} {x z : Operand}

/-- One cell. -/
theorem VX_ld1 (h : argO xr g [x] = some (og, [.lp t b o], ps)) (hl : lkt σ t = some (b', .cells cs)) (hb : b = b') (hy : cs[o]? = some y) (hps : OB ps) (k : VX P cfg l K E (putX og d y xr) σ) :
    VX P cfg (⟨some d, .load false n x, g⟩ :: l) K E xr σ := by
  obtain ⟨hc, he⟩ := argO_eq h
  refine VX_gen hc (fun hg => ?_) (fun hg => ?_)
  · have := he hps hg
    simp only [evs, List.cons.injEq, and_true] at this
    simp only [vcO, this, hl, hy, hb, Bool.false_eq_true, if_false]
    have := k.h
    rw [putX_t hg] at this
    exact ⟨trivial, this⟩
  · rw [← putX_f hg (v := y)]; exact k.h
/-- Some cells. -/
theorem VX_lda (h : argO xr g [x] = some (og, [.lp t b o], ps)) (hl : lkt σ t = some (b', .cells cs)) (hb : b = b') (hy : (cs.drop o).take n = ys ∧ o + n ≤ cs.length) (hps : OB ps) (k : VX P cfg l K E (putX og d (.agg ys) xr) σ) :
    VX P cfg (⟨some d, .load true n x, g⟩ :: l) K E xr σ := by
  obtain ⟨hc, he⟩ := argO_eq h
  refine VX_gen hc (fun hg => ?_) (fun hg => ?_)
  · have := he hps hg
    simp only [evs, List.cons.injEq, and_true] at this
    simp only [vcO, this, hl, hb, if_true, hy.1]
    have := k.h
    rw [putX_t hg] at this
    exact ⟨trivial, hy.2, this⟩
  · rw [← putX_f hg (v := .agg ys)]; exact k.h
theorem VX_st (h : argO xr none [x, z] = some (og, [.lp t b o, v], ps)) (hc : cellO v = some l') (hl : lkt σ t = some (b', .cells cs)) (hb : b = b') (hn : (Nat.beq l'.length n && l'.all AV.one) = true) (hu : over cs o l' = cs' ∧ o + n ≤ cs.length) (hps : OB ps)
    (k : VX P cfg l K E xr (upt σ t b (.cells cs'))) : VX P cfg (⟨none, .store n x z, none⟩ :: l) K E xr σ := by
  obtain ⟨_, he⟩ := argO_eq h
  unfold argO gX at h
  obtain ⟨ps', h', _, _⟩ := needs_eq h
  have hog : og = none := by split at h' <;> cases h'; rfl
  subst hog
  have := he hps rfl
  simp only [evs, List.cons.injEq, and_true] at this
  simp only [Bool.and_eq_true] at hn
  constructor
  simp only [vcX, vcG, vcO, this.1, this.2, cellO_eq hc, hl]
  exact ⟨hb, Nat.eq_of_beq_eq_true hn.1, hn.2, hu.2, by rw [hu.1]; exact k.h⟩

-- open order
theorem sure_args {g0 : Option Bool} {l : List Operand} {as : List AV} (h : needs g0 xr (tmpsOf l) [] (fun ps => match evsO (raw xr) l with | some as => some (g0, as, ps) | none => none) = some (og, as, ps)) : og = g0 := by
  obtain ⟨ps', h', _, _⟩ := needs_eq h
  split at h' <;> cases h'; rfl
theorem okd_den {op : IOp} (hcf : cf.all (sureX xr) = true) (h1 : ∀ t ∈ tmpsOf op.opers, lk (raw xr) t = lk (den xr) t) :
    ldOK als cf (raw xr) op = ldOK als cf (den xr) op ∧ stOK als cf (raw xr) op = stOK als cf (den xr) op := by
  have hc : ∀ t ∈ cf, lk (raw xr) t = lk (den xr) t := fun t ht => by
    have := List.all_eq_true.1 hcf t ht
    unfold sureX at this
    rw [lk_raw, lk_den]
    split at this
    · rename_i e; rw [e]; rfl
    · cases this
  exact ⟨ldOK_local h1 hc, stOK_local h1 hc⟩
theorem argO_raw {args : List Operand} {as : List AV} (h : argO xr g args = some (og, as, ps)) (hp : OB ps) (hg : og.getD true = true) : ∀ t ∈ tmpsOf args, lk (raw xr) t = lk (den xr) t := by
  unfold argO at h
  obtain ⟨b, h, _, _⟩ := gX_eq h
  obtain ⟨ps', h, _, h3⟩ := needs_eq h
  split at h
  · cases h; exact h3 hp.all hg
  · cases h

theorem VY_ld1 (h : argO xr g [x] = some (og, [.lp t b o], ps)) (hl : lkt σ t = some (b', .cells cs)) (hb : b = b') (hy : cs[o]? = some y) (hok : okX als cf xr (.load false n x) = true) (hps : OB ps) (k : VY P cfg als ld K (putX og d y xr) σ) :
    VY P cfg als (⟨ix, ⟨some d, .load false n x, g⟩, cf⟩ :: ld) K xr σ := by
  obtain ⟨hc, he⟩ := argO_eq h
  unfold okX at hok
  rw [Bool.and_eq_true] at hok
  refine VY_gen hc (fun hg => ?_) (fun hg => ?_)
  · have := he hps hg
    simp only [evs, List.cons.injEq, and_true] at this
    simp only [vcOD, IOp.cls]
    refine ⟨by rw [← (okd_den hok.1 (op := .load false n x) (argO_raw h hps hg)).1]; exact hok.2, ?_⟩
    simp only [vcO, this, hl, hy, hb, Bool.false_eq_true, if_false]
    have := k.h
    rw [putX_t hg] at this
    exact ⟨trivial, this⟩
  · rw [← putX_f hg (v := y)]; exact k.h
theorem VY_lda (h : argO xr g [x] = some (og, [.lp t b o], ps)) (hl : lkt σ t = some (b', .cells cs)) (hb : b = b') (hy : (cs.drop o).take n = ys ∧ o + n ≤ cs.length) (hok : okX als cf xr (.load true n x) = true) (hps : OB ps) (k : VY P cfg als ld K (putX og d (.agg ys) xr) σ) :
    VY P cfg als (⟨ix, ⟨some d, .load true n x, g⟩, cf⟩ :: ld) K xr σ := by
  obtain ⟨hc, he⟩ := argO_eq h
  unfold okX at hok
  rw [Bool.and_eq_true] at hok
  refine VY_gen hc (fun hg => ?_) (fun hg => ?_)
  · have := he hps hg
    simp only [evs, List.cons.injEq, and_true] at this
    simp only [vcOD, IOp.cls]
    refine ⟨by rw [← (okd_den hok.1 (op := .load true n x) (argO_raw h hps hg)).1]; exact hok.2, ?_⟩
    simp only [vcO, this, hl, hb, if_true, hy.1]
    have := k.h
    rw [putX_t hg] at this
    exact ⟨trivial, hy.2, this⟩
  · rw [← putX_f hg (v := .agg ys)]; exact k.h
theorem VY_st (h : argO xr none [x, z] = some (og, [.lp t b o, v], ps)) (hc : cellO v = some l') (hl : lkt σ t = some (b', .cells cs)) (hb : b = b') (hn : (Nat.beq l'.length n && l'.all AV.one) = true) (hu : over cs o l' = cs' ∧ o + n ≤ cs.length)
    (hok : okX als cf xr (.store n x z) = true) (hps : OB ps) (k : VY P cfg als ld K xr (upt σ t b (.cells cs'))) : VY P cfg als (⟨ix, ⟨none, .store n x z, none⟩, cf⟩ :: ld) K xr σ := by
  have h0 := h
  obtain ⟨_, he⟩ := argO_eq h
  unfold argO gX at h
  obtain ⟨ps', h', _, _⟩ := needs_eq h
  have hog : og = none := by split at h' <;> cases h'; rfl
  subst hog
  have := he hps rfl
  simp only [evs, List.cons.injEq, and_true] at this
  simp only [Bool.and_eq_true] at hn
  unfold okX at hok
  rw [Bool.and_eq_true] at hok
  constructor
  simp only [vcM, vcGD, vcOD, IOp.cls]
  refine ⟨by rw [← (okd_den hok.1 (op := .store n x z) (argO_raw h0 hps rfl)).2]; exact hok.2, ?_⟩
  simp only [vcO, this.1, this.2, cellO_eq hc, hl]
  exact ⟨hb, Nat.eq_of_beq_eq_true hn.1, hn.2, hu.2, by rw [hu.1]; exact k.h⟩
end
end Go.Sx
