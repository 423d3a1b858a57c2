
/- catalog.Uses, Order, Cycle as contracts of the layer. -/
import Derived.Test.YtekngilbecjkhaaGreatDoorCq
import Derived.Test.YtekngilbecjkhaaGreatDoorCn
import Derived.Test.YtekngilbecjkhaaGreatDoorCj
import Derived.Test.YtekngilbecjkhaaGreatDoorSxL
set_option linter.unusedVariables false
set_option linter.unusedSimpArgs false
namespace Go.Proofs.YtekngilbecjkhaaGreatDoor
open Go.RowKit Go.Proofs Go.Tb Go.Maps
open Go.Sx (AV Inv Mem RL R M0 Glob Store BlkOK)
def memN (M : Mem) (n : Nat) (w' : World) : Mem := fun b o => if n ≤ b then w'.cell? ⟨b, o, none⟩ else M b o
theorem memN_le {M : Mem} {w0 w w' : World} {σ : Store} (hI : Inv Tryz.prog M w0 σ w) : M.le (memN M w.heap.size w') := fun b o v h => by
  have := World.block_lt_of_cell? _ _ (hI.imm b o v h)
  unfold memN
  rw [if_neg (by simp at this; omega)]; exact h
theorem inv_new {M : Mem} {w0 w w' : World} {σ : Store} (hI : Inv Tryz.prog M w0 σ w) (hb : Below w.heap.size w w') : Inv Tryz.prog (memN M w.heap.size w') w0 σ w' := by
  have h1 := hI.after hb
  have hle := memN_le (w' := w') hI
  refine ⟨h1.os, h1.tape, h1.output, h1.size, h1.old, fun b o v h => ?_, fun e he => ?_, h1.nd, fun g l hl => (h1.gl g l hl).mono hle, h1.gw⟩
  · unfold memN at h
    split at h
    · exact h
    · exact h1.imm b o v h
  · obtain ⟨g1, g2⟩ := h1.st e he
    refine ⟨g1, ?_⟩
    obtain ⟨_, g3⟩ := hI.st e he
    have hlt : e.2.1 < w.heap.size := by
      cases hx : e.2.2 with
      | cells l => rw [hx] at g3; obtain ⟨_, cs, t, a2, _⟩ := g3; exact (Array.getElem?_eq_some_iff.1 a2).1
      | tail u c => rw [hx] at g3; obtain ⟨_, cs, t, a2, _⟩ := g3; exact (Array.getElem?_eq_some_iff.1 a2).1
      | map es k => rw [hx] at g3; obtain ⟨_, l, a2, _⟩ := g3; exact (Array.getElem?_eq_some_iff.1 a2).1
    have hN : ∀ o, memN M w.heap.size w' e.2.1 o = M e.2.1 o := fun o => by unfold memN; rw [if_neg (by omega)]
    cases hx : e.2.2 with
    | cells l => rw [hx] at g2; obtain ⟨a1, cs, t, a2, a3⟩ := g2; exact ⟨fun o => (hN o).trans (a1 o), cs, t, a2, a3.mono hle⟩
    | tail u c => rw [hx] at g2; obtain ⟨a1, cs, t, a2, a3⟩ := g2; exact ⟨fun o ho => (hN o).trans (a1 o ho), cs, t, a2, a3⟩
    | map es k => rw [hx] at g2; obtain ⟨a1, l, a2, a3, a4⟩ := g2; exact ⟨fun o => (hN o).trans (a1 o), l, a2, a3, a4.mono hle⟩
theorem inv_start {M : Mem} {w0 w : World} {σ : Store} (hI : Inv Tryz.prog M w0 σ w) : Inv Tryz.prog M w [] w :=
  ⟨rfl, rfl, rfl, Nat.le_refl _, fun _ _ => rfl, hI.imm, fun e he => (by cases he), List.nodup_nil, hI.gl, GW.keep hI.gw hI.size fun k cs t f h => hI.old k (Array.getElem?_eq_some_iff.1 h).1⟩
theorem names_R {M : Mem} {w' : World} {n lo : Nat} {e : TypeId} {v : Value} {L : List Str} (h : names w' e lo v L) (hl : n ≤ lo) : R (memN M n w') (.sl false 1 (L.map strRow)) v := by
  obtain ⟨a, cap, rfl, h1, h2, h3⟩ := h
  by_cases hc : cap = 0
  · subst hc
    have : L = [] := List.eq_nil_of_length_eq_zero (by omega)
    subst this
    exact .nil false 1 a (by simp)
  · obtain ⟨g, off, cur, rfl, g2, g3, g4, g5⟩ := h3 (by omega)
    have := R.sl (M := memN M n w') false 1 (L.map strRow) g off cap (fun k => .string (L.getD k ⟨#[]⟩)) (fun i hi => by rw [List.getElem_map]; rfl) (fun k hk => ?_) (fun i hi j hj => ?_) (by rw [List.length_map]; exact h1) h2
    · rw [List.length_map] at this; exact this
    · have hk : k < L.length := by simpa using hk
      unfold memN
      rw [if_pos (by omega), cell_at g3, g5 k hk, List.getD_eq_getElem?_getD, List.getElem?_eq_getElem hk]; rfl
    · have hi : i < L.length := by simpa using hi
      simp only [List.getElem_map, strRow, List.length_cons, List.length_nil] at hj ⊢
      obtain rfl : j = 0 := by omega
      rw [List.getD_eq_getElem?_getD, Nat.mul_one, Nat.add_zero, List.getElem?_eq_getElem hi]
      exact .v _
theorem Pure.new {f : FuncId} {xs : List AV} {r : AV} (h : ∀ (M : Mem) (w : World) (cs : List Value), Inv Tryz.prog M w [] w → RL M xs cs → Calls Tryz.prog f cs.toArray w fun e w' => (∃ v, e = .returned v ∧ R (memN M w.heap.size w') r v) ∧ Below w.heap.size w w') : Sx.Pure Tryz.prog f xs r :=
  ⟨fun σ M w0 w cs hI hR => (h M w cs (inv_start hI) hR).mono fun e w' ⟨⟨v, he, hv⟩, hb⟩ => ⟨memN M w.heap.size w', .ret r, σ, memN_le hI, inv_new hI hb, by subst he; exact hv, rfl, rfl⟩⟩
theorem RL.agg1 {M : Mem} {l : List AV} {cs : List Value} (h : RL M [.agg l] cs) : ∃ C : Array Value, cs.toArray = #[.agg C] ∧ RL M l C.toList := by
  obtain ⟨v, rfl, h1⟩ := Sx.RL.un1 h
  obtain ⟨cs', rfl, h2⟩ := h1.of_agg
  exact ⟨cs'.toArray, rfl, by simpa using h2⟩
theorem RL.agg2 {M : Mem} {l l' : List AV} {cs : List Value} (h : RL M [.agg l, .agg l'] cs) : ∃ C C' : Array Value, cs.toArray = #[.agg C, .agg C'] ∧ RL M l C.toList ∧ RL M l' C'.toList := by
  obtain ⟨v, cs2, rfl, h1, h2⟩ := h.uncons
  obtain ⟨v2, rfl, h3⟩ := Sx.RL.un1 h2
  obtain ⟨cs', rfl, h4⟩ := h1.of_agg
  obtain ⟨cs3, rfl, h5⟩ := h3.of_agg
  exact ⟨cs'.toArray, cs3.toArray, rfl, by simpa using h4, by simpa using h5⟩
abbrev strsV (l : List Str) : AV := .sl false 1 (l.map strRow)
theorem order_ok (c : Cat) (hF : CFit c.features) : Sx.Pure Tryz.prog 20 [.agg c.cells] (strsV (orderL (deps c.features) (namesF c.features))) := Pure.new fun M w cs hI hR => by
  obtain ⟨C, e, hC⟩ := RL.agg1 hR
  rw [e]
  exact (order_walk c hF hI hC).mono fun e w' ⟨v, h1, h2, h3⟩ => ⟨⟨v, h1, names_R h2 (Nat.le_refl _)⟩, h3⟩
theorem cycle_ok (c : Cat) (hF : CFit c.features) : Sx.Pure Tryz.prog 18 [.agg c.cells] (strsV (cycL (deps c.features) (namesF c.features))) := Pure.new fun M w cs hI hR => by
  obtain ⟨C, e, hC⟩ := RL.agg1 hR
  rw [e]
  exact (cycle_walk c hF hI hC).mono fun e w' ⟨v, h1, h2, h3⟩ => ⟨⟨v, h1, names_R h2 (Nat.le_refl _)⟩, h3⟩
theorem uses_ok (c : Cat) (x : Ex) (hU : USmall c.features x) : Sx.Pure Tryz.prog 15 [.agg c.cells, .agg x.cells] (.tup [strsV (usesF c.features x), strsV (usesT c.features x)]) := Pure.new fun M w cs hI hR => by
  obtain ⟨C, X, e, hC, hX⟩ := RL.agg2 hR
  rw [e]
  exact (uses_walk c x hU hI hC hX).mono fun e w' ⟨v1, v2, h1, h2, h3, h4⟩ => ⟨⟨_, h1, R.mk_tup (cs := [v1, v2]) (RL.cons (names_R h2 (Nat.le_refl _)) (RL.cons (names_R h3 (Nat.le_refl _)) RL.nil))⟩, h4⟩
end Go.Proofs.YtekngilbecjkhaaGreatDoor
