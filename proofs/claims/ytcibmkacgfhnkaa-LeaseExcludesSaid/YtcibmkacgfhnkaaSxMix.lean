/-
  The layer Sx, thirteenth part: a region whose order is open, with new variables and stores among its operations.
-/
import Derived.Test.YtcibmkacgfhnkaaSxStep
namespace Go.Sx
open Go.RowKit

/-- Stores that say the same. -/
def StEq (σ σ' : Store) : Prop := (∀ t, lkt σ t = lkt σ' t) ∧ σ.Perm σ'
theorem StEq.refl (σ : Store) : StEq σ σ := ⟨fun _ => rfl, .refl _⟩
theorem StEq.symm {σ σ' : Store} (h : StEq σ σ') : StEq σ' σ := ⟨fun t => (h.1 t).symm, h.2.symm⟩
theorem StEq.trans {a b c : Store} (h : StEq a b) (k : StEq b c) : StEq a c := ⟨fun t => (h.1 t).trans (k.1 t), h.2.trans k.2⟩
theorem lkt_cons (t b : Nat) (x : Blk) (σ : Store) (s : Nat) : lkt ((t, b, x) :: σ) s = if t = s then some (b, x) else lkt σ s := by
  simp only [lkt]
  cases h : Nat.beq t s with
  | true => rw [if_pos (Nat.eq_of_beq_eq_true h)]; rfl
  | false => rw [if_neg (fun e => by subst e; simp [Nat.beq_refl] at h)]; rfl
theorem StEq.cons {σ σ' : Store} (e : Nat × Nat × Blk) (h : StEq σ σ') : StEq (e :: σ) (e :: σ') := by
  obtain ⟨t, b, x⟩ := e
  exact ⟨fun s => by rw [lkt_cons, lkt_cons, h.1 s], h.2.cons _⟩
theorem StEq.swap {t t' b b' : Nat} {x x' : Blk} (h : t ≠ t') (σ : Store) : StEq ((t, b, x) :: (t', b', x') :: σ) ((t', b', x') :: (t, b, x) :: σ) :=
  ⟨fun s => by
    simp only [lkt_cons]
    by_cases h1 : t = s
    · by_cases h2 : t' = s
      · exact absurd (h1.trans h2.symm) h
      · simp [h1, h2]
    · by_cases h2 : t' = s <;> simp [h1, h2], List.Perm.swap _ _ _⟩
theorem lkt_upt {t b : Nat} {x : Blk} : ∀ {σ : Store}, lkt σ t = some (b, x) → ∀ b' x' s, lkt (upt σ t b' x') s = if t = s then some (b', x') else lkt σ s
  | [], h, _, _, _ => by cases h
  | (i, c, y) :: σ, h, b', x', s => by
    rw [lkt_cons] at h
    simp only [upt]
    cases hb : Nat.beq i t with
    | true =>
      obtain rfl := Nat.eq_of_beq_eq_true hb
      simp only [cond_true, lkt_cons]
      split <;> rfl
    | false =>
      have hne : i ≠ t := fun e => by subst e; simp [Nat.beq_refl] at hb
      rw [if_neg hne] at h
      simp only [cond_false, lkt_cons, lkt_upt h b' x' s]
      by_cases h1 : i = s
      · have : t ≠ s := fun e => hne (h1.trans e.symm)
        simp [h1, this]
      · simp [h1]
theorem StEq.upt {σ σ' : Store} (h : StEq σ σ') {t b : Nat} {x : Blk} (hb : lkt σ t = some (b, x)) (b' : Nat) (x' : Blk) : StEq (Sx.upt σ t b' x') (Sx.upt σ' t b' x') := by
  have hb' : lkt σ' t = some (b, x) := (h.1 t).symm.trans hb
  refine ⟨fun s => by rw [lkt_upt hb, lkt_upt hb', h.1 s], ?_⟩
  obtain ⟨p, q, e, k⟩ := upt_split hb
  obtain ⟨p', q', e', k'⟩ := upt_split hb'
  rw [k, k']
  have hp := h.2
  rw [e, e'] at hp
  have h1 : ((t, b, x) :: (p ++ q)).Perm ((t, b, x) :: (p' ++ q')) := (List.perm_middle.symm.trans hp).trans List.perm_middle
  exact (List.perm_middle.trans ((h1.cons_inv).cons _)).trans List.perm_middle.symm
theorem Inv.perm {M : Mem} {w0 w : World} {σ σ' : Store} (hI : Inv M w0 σ w) (h : σ.Perm σ') : Inv M w0 σ' w :=
  ⟨hI.os, hI.tape, hI.output, hI.size, hI.old, hI.imm, fun e he => hI.st e (h.mem_iff.2 he), ((h.map _).nodup_iff).1 hI.nd⟩

theorem vcOQ_free {P : Program} {cfg : Nat → Nat} {d : Option Nat} {rg : Regs} {σ : Store} {K : AV → Prop} {op : IOp} (hl : op.cls = 0) (h : vcOQ P cfg d rg σ K op) :
    ∃ x, K x ∧ ∀ (σ' : Store) (K' : AV → Prop), K' x → vcOQ P cfg d rg σ' K' op := by
  cases op with
  | box t x => exact h.elim
  | alloc t z => exact h.elim
  | store n x y => exact h.elim
  | append t n k z x y => exact h.elim
  | call f args => obtain ⟨r, hp, hk⟩ := h; exact ⟨r, hk, fun σ' K' h => ⟨r, hp, h⟩⟩
  | callv f args =>
    simp only [vcOQ] at h
    simp only [vcOQ, vcO]
    split at h
    · rename_i g b c he
      obtain ⟨hcl, r, hp, hk⟩ := h
      (try rw [he])
      exact ⟨r, hk, fun σ' K' h => ⟨hcl, r, hp, h⟩⟩
    · exact h.elim
  | mksl t esz parts =>
    simp only [vcOQ] at h
    simp only [vcOQ, vcO]
    split at h
    · rename_i rows he
      (try rw [he])
      exact ⟨_, h.2.2, fun σ' K' hk => ⟨h.1, h.2.1, hk⟩⟩
    · exact h.elim
  | len s x =>
    cases s <;> simp only [vcOQ] at h <;> simp only [vcOQ]
    · split at h
      · rename_i b n c he; (try rw [he]); exact ⟨_, h, fun σ' K' hk => hk⟩
      · rename_i tg b o n c he; (try rw [he]); exact ⟨_, h, fun σ' K' hk => hk⟩
      · rename_i nn ez rows he; (try rw [he]); exact ⟨_, h, fun σ' K' hk => hk⟩
      · rename_i ez tg b u c rows he; (try rw [he]); exact ⟨_, h, fun σ' K' hk => hk⟩
      · exact h.elim
    · split at h
      · rename_i s he; (try rw [he]); exact ⟨_, h, fun σ' K' hk => hk⟩
      · exact h.elim
  | mv x => exact ⟨_, h, fun σ' K' hk => hk⟩
  | mkifc t x => exact ⟨_, h, fun σ' K' hk => hk⟩
  | pick c x y =>
    simp only [vcOQ, vcO] at h
    simp only [vcOQ, vcO]
    split at h
    · rename_i t he; (try rw [he]); exact ⟨_, h, fun σ' K' hk => hk⟩
    · exact h.elim
  | build z parts =>
    simp only [vcOQ, vcO] at h
    simp only [vcOQ, vcO]
    split at h
    · rename_i t he; (try rw [he]); exact ⟨_, h, fun σ' K' hk => hk⟩
    · exact h.elim
  | load g n x => cases hl
  | nilck x =>
    simp only [vcOQ, vcO] at h
    simp only [vcOQ, vcO]
    split at h <;> first | exact h.elim | (rename_i he; (try rw [he]); exact ⟨_, h, fun σ' K' hk => hk⟩)
  | bin op x y =>
    simp only [vcOQ, vcO] at h
    simp only [vcOQ, vcO]
    split at h
    · rename_i u v hu hv
      (try rw [hu, hv])
      obtain ⟨z, hz, hz'⟩ := vcBin_det h
      exact ⟨.v z, hz, fun σ' K' hk => hz' _ hk⟩
    · exact h.elim
  | eqb n k x y =>
    simp only [vcOQ, vcO] at h
    simp only [vcOQ, vcO]
    split at h
    · rename_i t he; (try rw [he]); exact ⟨_, h, fun σ' K' hk => hk⟩
    · exact h.elim
  | eqs n k x y =>
    simp only [vcOQ, vcO] at h
    simp only [vcOQ, vcO]
    split at h
    · rename_i xs ys h1 h2
      (try rw [h1, h2])
      split at h
      · rename_i t he; (try simp only [he]); exact ⟨_, h, fun σ' K' hk => hk⟩
      · exact h.elim
    · exact h.elim
  | un op x =>
    simp only [vcOQ, vcO] at h
    simp only [vcOQ, vcO]
    split at h
    · rename_i u hu
      (try rw [hu])
      split at h
      · rename_i t he; (try simp only [he]); exact ⟨_, h, fun σ' K' hk => hk⟩
      · exact h.elim
    · exact h.elim
  | cvint k x =>
    simp only [vcOQ, vcO] at h
    simp only [vcOQ, vcO]
    split at h
    · rename_i k' n he; (try rw [he]); exact ⟨_, h, fun σ' K' hk => hk⟩
    · exact h.elim
  | cvstr x =>
    simp only [vcOQ, vcO] at h
    simp only [vcOQ, vcO]
    split at h
    · rename_i s he; (try rw [he]); exact ⟨_, h, fun σ' K' hk => hk⟩
    · exact h.elim
  | mkfn fn first captured =>
    simp only [vcOQ, vcO] at h
    simp only [vcOQ, vcO]
    split at h
    · rename_i u v h1 h2; (try rw [h1, h2]); exact ⟨_, h, fun σ' K' hk => hk⟩
    · exact h.elim
  | slice esz x lo hi =>
    simp only [vcOQ, vcO] at h
    simp only [vcOQ, vcO]
    split at h
    · rename_i rlo rhi h1 h2
      (try rw [h1, h2])
      split at h
      · rename_i nn e rows he; (try simp only [he]); exact ⟨_, h.2.2.2.2, fun σ' K' hk => ⟨h.1, h.2.1, h.2.2.1, h.2.2.2.1, hk⟩⟩
      · rename_i e tg b u c rows he; (try simp only [he]); exact ⟨_, h.2.2.2.2, fun σ' K' hk => ⟨h.1, h.2.1, h.2.2.1, h.2.2.2.1, hk⟩⟩
      · rename_i he; (try simp only [he]); exact ⟨_, h.2.2, fun σ' K' hk => ⟨h.1, h.2.1, hk⟩⟩
      · exact h.elim
    · exact h.elim
  | faddr off x =>
    simp only [vcOQ, vcO] at h
    simp only [vcOQ, vcO]
    split at h <;> first | exact h.elim | (rename_i he; (try rw [he]); exact ⟨_, h, fun σ' K' hk => hk⟩)
  | field g o n x =>
    simp only [vcOQ, vcO] at h
    simp only [vcOQ, vcO]
    split at h
    · rename_i l hl
      (try rw [hl])
      obtain ⟨hlt, h⟩ := h
      cases g with
      | true => simp only [if_true] at h ⊢; exact ⟨_, h, fun σ' K' hk => ⟨hlt, hk⟩⟩
      | false =>
        simp only [Bool.false_eq_true, if_false] at h ⊢
        split at h
        · rename_i y hy; (try rw [hy]); exact ⟨_, h, fun σ' K' hk => ⟨hlt, hk⟩⟩
        · exact h.elim
    · exact h.elim
  | iaddr esz x i =>
    simp only [vcOQ, vcO] at h
    simp only [vcOQ, vcO]
    split at h
    · rename_i k j hi
      (try rw [hi])
      split at h
      · rename_i nn e rows he; (try simp only [he]); exact ⟨_, h.2.2.2, fun σ' K' hk => ⟨h.1, h.2.1, h.2.2.1, hk⟩⟩
      · rename_i e tg b u c rows he; (try simp only [he]); exact ⟨_, h.2.2.2, fun σ' K' hk => ⟨h.1, h.2.1, h.2.2.1, hk⟩⟩
      · rename_i tg b o n c he; (try simp only [he]); exact ⟨_, h.2.2, fun σ' K' hk => ⟨h.1, h.2.1, hk⟩⟩
      · exact h.elim
    · exact h.elim
  | iaddrA n esz x i =>
    simp only [vcOQ, vcO] at h
    simp only [vcOQ, vcO]
    split at h
    · rename_i k j hi
      (try rw [hi])
      split at h
      · rename_i tg b o he; (try simp only [he]); exact ⟨_, h.2.2, fun σ' K' hk => ⟨h.1, h.2.1, hk⟩⟩
      · rename_i l he; (try simp only [he]); exact ⟨_, h.2.2, fun σ' K' hk => ⟨h.1, h.2.1, hk⟩⟩
      · exact h.elim
    · exact h.elim
  | idxs x i =>
    simp only [vcOQ, vcO] at h
    simp only [vcOQ, vcO]
    split at h
    · rename_i k j s h1 h2
      (try rw [h1, h2])
      obtain ⟨hlt, h⟩ := h
      exact ⟨_, h, fun σ' K' hk => ⟨hlt, hk⟩⟩
    · exact h.elim
  | extract x i =>
    simp only [vcOQ, vcO] at h
    simp only [vcOQ, vcO]
    split at h
    · rename_i xs he
      (try rw [he])
      split at h
      · rename_i y hy; (try simp only [hy]); exact ⟨_, h, fun σ' K' hk => hk⟩
      · exact h.elim
    · rename_i xs he
      (try rw [he])
      split at h
      · rename_i y hy; (try simp only [hy]); exact ⟨_, h, fun σ' K' hk => hk⟩
      · exact h.elim
    · exact h.elim
  | max2 x y =>
    simp only [vcOQ, vcO] at h
    simp only [vcOQ, vcO]
    split at h
    · rename_i u v h1 h2
      (try rw [h1, h2])
      split at h
      · rename_i t he; (try simp only [he]); exact ⟨_, h, fun σ' K' hk => hk⟩
      · exact h.elim
    · exact h.elim
  | min2 x y =>
    simp only [vcOQ, vcO] at h
    simp only [vcOQ, vcO]
    split at h
    · rename_i u v h1 h2
      (try rw [h1, h2])
      split at h
      · rename_i t he; (try simp only [he]); exact ⟨_, h, fun σ' K' hk => hk⟩
      · exact h.elim
    · exact h.elim

end Go.Sx
