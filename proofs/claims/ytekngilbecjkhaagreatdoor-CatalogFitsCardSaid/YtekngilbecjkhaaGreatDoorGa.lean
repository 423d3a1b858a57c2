/- The layer: slices made, slices laid for good; a slice of one's own whose rows are weakened. -/
import Derived.Test.YtekngilbecjkhaaGreatDoorFa
import Derived.Laws.MakeOwn
set_option linter.unusedSimpArgs false
set_option linter.unusedVariables false
set_option linter.unusedSectionVars false
namespace Go.Sx
open Go.RowKit Go.Proofs
theorem WkLL.refl : ∀ l : List (List AV), WkLL l l
  | [] => .nil
  | x :: l => .cons (.refl x) (.refl l)
theorem WkLL.app {a b c d : List (List AV)} (h : WkLL a b) (k : WkLL c d) : WkLL (a ++ c) (b ++ d) := by
  induction h with
  | nil => exact k
  | cons h _ ih => exact .cons h ih
section
variable {P : Program} [Glob P] {M : Mem} {w0 w : World} {σ : Store}
theorem Inv.freeze {t b : Nat} {xs : List AV} (hI : Inv P M w0 ((t, b, .cells xs) :: σ) w) : ∃ (M' : Mem) (vs : List Value), M.le M' ∧ Inv P M' w0 σ w ∧ RL M' xs vs ∧ ∀ k (h : k < vs.length), M' b k = some vs[k] := by
  obtain ⟨hsz, hn, cs, ty, hh, hR⟩ := hI.st _ (List.mem_cons_self)
  have hnd := hI.nd
  simp only [List.map_cons, List.nodup_cons] at hnd
  let M' : Mem := fun b' o => if b' = b then cs[o]? else M b' o
  have hle : M.le M' := fun b' o v h => by
    have hne : b' ≠ b := fun e => by rw [e, hn o] at h; cases h
    simp [M', hne, h]
  refine ⟨M', cs.toList, hle, ⟨hI.os, hI.tape, hI.output, hI.size, hI.old, fun b' o v h => ?_, fun e he => ⟨(hI.st e (List.mem_cons_of_mem _ he)).1, ?_⟩, hnd.2, fun g l e => (hI.gl g l e).mono hle, hI.gw⟩, hR.mono hle, fun k h => ?_⟩
  · by_cases e : b' = b
    · subst e
      have h2 : cs[o]? = some v := by simpa [M'] using h
      show w.cell? _ = _
      simp [World.cell?, hh, h2]
    · exact hI.imm b' o v (by simpa [M', e] using h)
  · obtain ⟨tg, b2, x⟩ := e
    have hk := (hI.st _ (List.mem_cons_of_mem _ he)).2
    have hne : b2 ≠ b := fun e => hnd.1 (e ▸ List.mem_map_of_mem (f := fun x : Nat × Nat × Blk => x.2.1) he)
    cases x with
    | cells l => obtain ⟨h1, cs', t', h2, h3⟩ := hk; exact ⟨fun o => by simp [M', hne, h1 o], cs', t', h2, h3.mono hle⟩
    | tail u' c => obtain ⟨h1, cs', t', h2, h3⟩ := hk; exact ⟨fun o ho => by simp [M', hne, h1 o ho], cs', t', h2, h3⟩
    | map es k => obtain ⟨h1, l, h2, h3, h4⟩ := hk; exact ⟨fun o => by simp [M', hne, h1 o], l, h2, h3, h4.mono hle⟩
  · have h2 : k < cs.size := by simpa using h
    simp [M', h2]
theorem Spec.frz {f : FuncId} {ys xs : List AV} (h : Spec P f ys σ fun r σ' => ∃ t b, r = .ret (.ms t b 0 xs.length xs.length) ∧ Sub ((t, b, .cells xs) :: σ) σ') (hl : xs.length ≤ maxLen) : Spec P f ys σ fun r σ' => r = .ret (.sl false 1 (xs.map fun x => [x])) ∧ σ' = σ := by
  intro M w0 w cs hI hR
  refine (h M w0 w cs hI hR).mono fun e w' ⟨M', r, σ', hM, hI', hr, t, b, e1, e2⟩ => ?_
  subst e1
  obtain ⟨M2, vs, hM2, hI2, hR2, hc⟩ := (hI'.sub e2).freeze
  refine ⟨M2, _, _, hM.trans hM2, hI2, ?_, rfl, rfl⟩
  cases e with
  | returned v =>
    have hv : R M' (.ms t b 0 xs.length xs.length) v := hr
    cases hv
    have key : R M2 (.sl false 1 (xs.map fun x => [x])) (.slice (some ⟨b, 0, none⟩) (xs.map fun x => [x]).length xs.length) := by
      refine .sl _ _ _ b 0 _ (fun k => vs.getD k default) (fun i hi => by rw [List.getElem_map]; rfl) (fun k hk => ?_) (fun i hi j hj => ?_) (by rw [List.length_map]; exact Nat.le_refl _) hl
      · have hk' : k < vs.length := by rw [← hR2.1]; rw [List.length_map] at hk; omega
        rw [Nat.zero_add, hc k hk', List.getD_eq_getElem?_getD, List.getElem?_eq_getElem hk']; rfl
      · have hi' : i < xs.length := by rw [List.length_map] at hi; exact hi
        have hj0 : j = 0 := by rw [List.getElem_map] at hj; simp at hj; omega
        subst hj0
        have hi2 : i < vs.length := by rw [← hR2.1]; exact hi'
        have := hR2.2 i hi' hi2
        simp only [List.getElem_map, List.getElem_cons_zero, Nat.mul_one, Nat.add_zero, List.getD_eq_getElem?_getD, List.getElem?_eq_getElem hi2, Option.getD_some]
        exact this
    rw [List.length_map] at key
    exact key
  | _ => exact hr.elim
end
section
variable {P : Program} [Glob P] {cfg : Nat → Nat} {K : Regs → Store → Prop} {E : List PanicEntry → Store → Prop} {σ : Store} {l : List CI} {d : Nat} {v : AV} {xr : XR} {ps : List Prop} {og : Option Bool} {ys : List AV}
end
end Go.Sx

/- The reference: what a feature uses of the features in force; the graph; the order. -/
set_option linter.unusedSimpArgs false
set_option linter.unusedVariables false
set_option maxRecDepth 100000
set_option maxHeartbeats 4000000
namespace Go.Proofs.YtekngilbecjkhaaGreatDoor
open Go.Sx Go.Proofs Go.Tb
def Gr (lab : Nat) (rows : List (List AV)) (x : AV) (τ : Store) : Prop := (rows = [] ∧ x = nilA ∧ τ = []) ∨ ∃ b u c, x = .own 1 lab b u c rows ∧ τ = [(lab, b, .tail u c)]
theorem Gr.z {lab : Nat} : Gr lab [] nilA [] := .inl ⟨rfl, rfl, rfl⟩
theorem Gr.n {lab : Nat} {rows : List (List AV)} (h : rows = []) : Gr lab rows nilA [] := .inl ⟨h, rfl, rfl⟩
theorem Gr.s {lab b u c : Nat} {rows rows' : List (List AV)} (h : rows' = rows) : Gr lab rows (.own 1 lab b u c rows') [(lab, b, .tail u c)] := .inr ⟨b, u, c, by rw [h], rfl⟩
def idxL (N l : List Str) : List Nat := (List.range N.length).filter fun k => decide (N.getD k default ∈ l)
end Go.Proofs.YtekngilbecjkhaaGreatDoor

/- The reference: the number of steps to a target. -/
set_option linter.unusedSimpArgs false
set_option linter.unusedVariables false
set_option maxRecDepth 100000
set_option maxHeartbeats 4000000
namespace Go.Proofs.YtekngilbecjkhaaGreatDoor
open Go.Sx Go.Proofs Go.Tb
theorem idx_mem {N l : List Str} {x : Nat} : x ∈ idxL N l ↔ x < N.length ∧ N.getD x default ∈ l := by
  unfold idxL; rw [List.mem_filter, List.mem_range, decide_eq_true_eq]
structure StI (g : Str → List Str) (N : List Str) (b : Str) (D : List Nat) : Prop where
  len : D.length = N.length
  le : ∀ j, j < N.length → D.getD j 0 ≤ 1000
  st : ∀ j, j < N.length → D.getD j 0 < 1000 → Stp g (D.getD j 0) (N.getD j default) b
def cand (T : Nat) (D : List Nat) (x : Nat) : Nat := if x = T then 1 else D.getD x 0 + 1
theorem getD_set {D : List Nat} {j k v : Nat} (h : j < D.length) : (D.set j v).getD k 0 = if k = j then v else D.getD k 0 := by
  rw [List.getD_eq_getElem?_getD, List.getElem?_set, List.getD_eq_getElem?_getD]
  by_cases e : j = k
  · subst e; simp [h]
  · rw [if_neg e, if_neg (fun h => e h.symm)]
theorem StI.set {g : Str → List Str} {N : List Str} {T : Nat} {D : List Nat} (h : StI g N (N.getD T default) D) {j x : Nat} (hj : j < N.length) (hx : x ∈ idxL N (g (N.getD j default))) (hlt : cand T D x < D.getD j 0) : StI g N (N.getD T default) (D.set j (cand T D x)) := by
  have hjD : j < D.length := by rw [h.len]; exact hj
  have hle := h.le j hj
  refine ⟨by rw [List.length_set, h.len], fun k hk => ?_, fun k hk h1 => ?_⟩
  · rw [getD_set hjD]; split
    · omega
    · exact h.le k hk
  · rw [getD_set hjD] at h1 ⊢
    by_cases e : k = j
    · subst e
      rw [if_pos rfl]
      obtain ⟨hx1, hx2⟩ := idx_mem.1 hx
      unfold cand at hlt ⊢
      by_cases e2 : x = T
      · subst e2; rw [if_pos rfl]; exact .one hx2
      · rw [if_neg e2] at hlt ⊢
        exact .cons hx2 (h.st x hx1 (by omega))
    · rw [if_neg e] at h1 ⊢; exact h.st k hk h1
def Clo (g : Str → List Str) (N : List Str) (T : Nat) (D : List Nat) : Prop := ∀ j, j < N.length → ∀ x ∈ idxL N (g (N.getD j default)), D.getD j 0 ≤ cand T D x
theorem Clo.le {g : Str → List Str} {N : List Str} {T : Nat} {D : List Nat} (hc : Clo g N T D) (hT : T < N.length) (hg : ∀ x y, y ∈ g x → y ∈ N) {k : Nat} {a b : Str} (hs : Stp g k a b) (hb : b = N.getD T default) : ∀ j, j < N.length → N.getD j default = a → D.getD j 0 ≤ k := by
  induction hs with
  | one h =>
    intro j hj e
    subst hb e
    have := hc j hj T (idx_mem.2 ⟨hT, h⟩)
    unfold cand at this
    rwa [if_pos rfl] at this
  | cons h t ih =>
    rename_i k a c b
    intro j hj e
    subst e
    obtain ⟨x, hx, e⟩ := List.getElem_of_mem (hg _ _ h)
    have e' : N.getD x default = c := by rw [getD_eq hx]; exact e
    have h1 := hc j hj x (idx_mem.2 ⟨hx, by rw [e']; exact h⟩)
    have h2 := ih hb x hx e'
    have h3 := t.pos
    unfold cand at h1
    split at h1 <;> omega
end Go.Proofs.YtekngilbecjkhaaGreatDoor
