/-
  The layer Sx, fourth part: operations that make memory, arithmetic, slices.
-/
import Derived.Test.YtcibmkacgfhnkaaSxComp
namespace Go.Sx
open Go.RowKit

theorem flatten_len {α : Type} {esz : Nat} : ∀ (rows : List (List α)), (∀ i (h : i < rows.length), rows[i].length = esz) → rows.flatten.length = rows.length * esz
  | [], _ => by simp
  | r :: rows, h => by
    have h0 := h 0 (by simp)
    simp only [List.getElem_cons_zero] at h0
    have := flatten_len rows (fun i hi => h (i + 1) (by simpa using hi))
    simp only [List.flatten_cons, List.length_append, List.length_cons, this, h0, Nat.succ_mul]
    omega

theorem flatten_get {α : Type} {esz : Nat} : ∀ (rows : List (List α)), (∀ i (h : i < rows.length), rows[i].length = esz) → ∀ i j, j < esz → (hi : i < rows.length) → rows.flatten[i * esz + j]? = rows[i][j]?
  | [], _, i, j, _, hi => absurd hi (by simp)
  | r :: rows, h, i, j, hj, hi => by
    have h0 := h 0 (by simp)
    simp only [List.getElem_cons_zero] at h0
    cases i with
    | zero => simp [List.getElem?_append, h0, hj]
    | succ i =>
      have := flatten_get rows (fun i hi => h (i + 1) (by simpa using hi)) i j hj (by simpa using hi)
      simp only [List.flatten_cons, List.getElem_cons_succ, ← this]
      rw [List.getElem?_append_right (by rw [h0, Nat.succ_mul]; omega)]
      congr 1
      rw [h0, Nat.succ_mul]; omega

theorem Rows.of_flat {M : Mem} {b off esz : Nat} {rows : List (List AV)} {L : List Value} (hs : ∀ i (h : i < rows.length), rows[i].length = esz) (hL : RL M rows.flatten L) (hM : ∀ k v, L[k]? = some v → M b (off + k) = some v) :
    Rows M b off esz rows (fun k => L.getD k undef) := by
  have hlen := flatten_len rows hs
  refine ⟨hs, fun k hk => ?_, fun i hi j hj => ?_⟩
  · have hk' : k < L.length := by rw [← hL.1, hlen]; exact hk
    have := hM k L[k] (List.getElem?_eq_getElem hk')
    simp [List.getElem?_eq_getElem hk', this]
  · have hj' : j < esz := hs i hi ▸ hj
    have hg := flatten_get rows hs i j hj' hi
    rw [List.getElem?_eq_getElem hj] at hg
    obtain ⟨v, hv, hr⟩ := hL.get hg
    simp [hv, hr]

theorem Rows.flat {M : Mem} {b off esz : Nat} {rows : List (List AV)} {cs : Nat → Value} (h : Rows M b off esz rows cs) : RL M rows.flatten ((List.range (rows.length * esz)).map cs) := by
  have hlen := flatten_len rows h.size
  refine ⟨by simp [hlen], fun k h1 h2 => ?_⟩
  rw [hlen] at h1
  have he : 0 < esz := by
    rcases Nat.eq_zero_or_pos esz with e | e
    · subst e; simp at h1
    · exact e
  have hi : k / esz < rows.length := Nat.div_lt_of_lt_mul (by rw [Nat.mul_comm]; exact h1)
  have hj : k % esz < esz := Nat.mod_lt _ he
  have hk : k / esz * esz + k % esz = k := by rw [Nat.mul_comm]; exact Nat.div_add_mod k esz
  have hg := flatten_get rows h.size (k / esz) (k % esz) hj hi
  rw [hk] at hg
  have hj' : k % esz < rows[k / esz].length := by rw [h.size]; exact hj
  rw [List.getElem?_eq_getElem hj', List.getElem?_eq_getElem (by rw [hlen]; exact h1)] at hg
  simp only [Option.some.injEq] at hg
  rw [hg]
  have := h.rel (k / esz) hi (k % esz) hj'
  rw [hk] at this
  simpa using this

/-- The first u cells of a new block B never change again. -/
def Mem.add (M : Mem) (B u : Nat) (cs : List Value) : Mem := fun b o => if b = B then (if o < u then cs[o]? else none) else M b o

section
variable {P : Program} {M : Mem} {w0 w : World} {σ : Store} {K : AV → Store → Prop} {rg : Regs} {a : Act}

theorem Inv.le_add (hI : Inv M w0 σ w) (u : Nat) (cs : List Value) : M.le (M.add w.heap.size u cs) := fun b o v h => by
  have hne : b ≠ w.heap.size := fun e => by rw [e, hI.freshM] at h; cases h
  simp [Mem.add, hne, h]

theorem Inv.addMem (hI : Inv M w0 σ w) (u : Nat) (cs : List Value) (t : TypeId) : Inv (M.add w.heap.size u cs) w0 σ (w.alloc (.cells cs.toArray t)) := by
  have h' := hI.alloc (.cells cs.toArray t)
  refine ⟨h'.os, h'.tape, h'.output, h'.size, h'.old, fun b o v hv => ?_, fun e he => ⟨(h'.st e he).1, ?_⟩, h'.nd⟩
  · simp only [Mem.add] at hv
    split at hv
    · rename_i e
      subst e
      split at hv
      · simpa using hv
      · cases hv
    · exact h'.imm b o v hv
  · obtain ⟨tg, b, x⟩ := e
    have hk := (h'.st _ he).2
    have hne : b ≠ w.heap.size := by have := hI.lt_of he; simp at this; omega
    have hle := hI.le_add u cs
    cases x with
    | cells l => obtain ⟨h1, cs', t', h2, h3⟩ := hk; exact ⟨fun o => by simp [Mem.add, hne, h1 o], cs', t', h2, h3.mono hle⟩
    | tail u' c => obtain ⟨h1, cs', t', h2, h3⟩ := hk; exact ⟨fun o ho => by simp [Mem.add, hne, h1 o ho], cs', t', h2, h3⟩

theorem Inv.addTail (hI : Inv M w0 σ w) (u : Nat) (cs : List Value) (t : TypeId) (hu : u ≤ cs.length) (tg : Nat) : Inv (M.add w.heap.size u cs) w0 ((tg, w.heap.size, .tail u cs.length) :: σ) (w.alloc (.cells cs.toArray t)) := by
  have h' := hI.addMem u cs t
  refine ⟨h'.os, h'.tape, h'.output, h'.size, h'.old, h'.imm, fun e he => ?_, ?_⟩
  · rcases List.mem_cons.1 he with rfl | he
    · exact ⟨hI.size, fun o ho => by simp [Mem.add]; omega, cs.toArray, t, heap_alloc_new _ _, by simp, hu⟩
    · exact h'.st e he
  · simp only [List.map_cons, List.nodup_cons]
    exact ⟨hI.fresh, hI.nd⟩

theorem s_box {cfg : Nat → Nat} {d : Option Nat} {E : List PanicEntry → Store → Prop} {x : Operand} {t : TypeId} (hI : Inv M w0 σ w) (hR : RegsOK M rg a) (h : vcO P cfg d rg σ K E (.box t x)) :
    Gives M w0 K ((Instr.box t (a.eval x)).run P w) := by
  simp only [vcO] at h
  split at h
  · rename_i l hl
    have hc := (hR.ev x).cells hl
    refine ⟨_, _, M, _, _, ?_, Mem.le.refl _, hI.box t hc _, .lp _ _ _, h w.heap.size⟩
    simp [Instr.box, newVar, newRow]
  · exact h.elim

theorem s_alloc {cfg : Nat → Nat} {d : Option Nat} {E : List PanicEntry → Store → Prop} {t : TypeId} {i : TypeInfo} {z : Value} (hi : P.info? t = some i) (hz : i.zero = some z) (hI : Inv M w0 σ w)
    (h : vcO P cfg d rg σ K E (.alloc t z)) : Gives M w0 K ((Instr.alloc t true (.tuple #[])).run P w) := by
  simp only [vcO] at h
  refine ⟨_, _, M, _, _, ?_, Mem.le.refl _, hI.box t (RL.exact z.cells.toList) _, .lp _ _ _, h w.heap.size⟩
  simp [Instr.alloc, run_zero hi hz, newVar, newRow]

theorem evs_RL (hR : RegsOK M rg a) : ∀ (l : List Operand), RL M (evs rg l) (l.map a.eval)
  | [] => RL.nil
  | x :: l => RL.cons (hR.ev x) (evs_RL hR l)

/-- Foldl of single stores into an array of cells is an overwriting. -/
theorem fold_set (off : Nat) : ∀ (l : List Value) (j : Nat) (cs : Array Value), off + j + l.length ≤ cs.size →
    (l.zipIdx j).foldl (fun cs (c, j) => cs.setIfInBounds (off + j) c) cs = (over cs.toList (off + j) l).toArray
  | [], j, cs, _ => by simp [over]
  | c :: l, j, cs, h => by
    simp only [List.length_cons] at h
    have hlt : off + j < cs.size := by omega
    simp only [List.zipIdx_cons, List.foldl_cons]
    rw [fold_set off l (j + 1) _ (by simp; omega)]
    apply Array.ext'
    simp only [over, Array.toList_setIfInBounds]
    have : (cs.toList.set (off + j) c).take (off + (j + 1)) = cs.toList.take (off + j) ++ [c] := by
      rw [show off + (j + 1) = off + j + 1 from rfl, List.take_succ_eq_append_getElem (by simpa using hlt), List.take_set_of_le (Nat.le_refl _)]
      simp
    rw [this, List.drop_set_of_lt (by omega)]
    simp only [List.length_cons, List.append_assoc, List.cons_append, List.nil_append]
    rw [show off + (j + 1) + l.length = off + j + (l.length + 1) from by omega]

inductive PM (place : Nat → Option (Nat × Nat)) : List (Nat × Operand) → List (Nat × Nat × Operand) → Prop
  | nil : PM place [] []
  | cons (i off n : Nat) (x : Operand) (l : List (Nat × Operand)) (ps : List (Nat × Nat × Operand)) (h : place i = some (off, n)) (t : PM place l ps) : PM place ((i, x) :: l) ((off, n, x) :: ps)

theorem s_fill (hR : RegsOK M rg a) (place : Nat → Option (Nat × Nat)) : ∀ (parts : List (Nat × Operand)) (ps : List (Nat × Nat × Operand)) (cs : Array Value) (l l' : List AV), RL M l cs.toList →
    PM place parts ps → fillA l (evp rg ps) = some l' →
    ∃ cs' : Array Value, Instr.fill place cs (parts.map fun (i, x) => (i, a.eval x)) = some cs' ∧ RL M l' cs'.toList
  | [], ps, cs, l, l', hl, hp, hf => by
    cases hp
    simp only [evp, fillA, Option.some.injEq] at hf
    subst hf
    exact ⟨cs, rfl, hl⟩
  | (i, x) :: parts, ps, cs, l, l', hl, hp, hf => by
    cases hp with
    | cons _ off n _ _ ps' hpl h2 =>
      simp only [evp, fillA] at hf
      split at hf
      · rename_i lx hlx
        split at hf
        · rename_i hc
          have hx := (hR.ev x).cells hlx
          have e1 : (a.eval x).cells.size = n := by rw [← hc.1, hx.1, Array.length_toList]
          have e2 : cs.size = l.length := by rw [hl.1, Array.length_toList]
          have hov := fold_set off (a.eval x).cells.toList 0 cs (by simp; omega)
          obtain ⟨cs', h3, h4⟩ := s_fill hR place parts ps' (over cs.toList off (a.eval x).cells.toList).toArray (over l off lx) l' (by simpa using hl.over hx off) h2 hf
          refine ⟨cs', ?_, h4⟩
          simp only [List.map_cons, Instr.fill, hpl]
          rw [if_neg (by simp; omega)]
          rw [← h3]
          congr 1
          rw [← Array.foldl_toList, Array.toList_zipIdx]
          simpa using hov
        · cases hf
      · cases hf

theorem placesS_PM (fs : List Field) (place : Nat → Option (Nat × Nat)) (hp : ∀ i f k, fs[i]? = some f → P.info? f.type = some k → place i = some (f.offset, k.size)) :
    ∀ (l : List (Nat × Operand)) (ps : List (Nat × Nat × Operand)), placesS P fs l = some ps → PM place l ps
  | [], ps, h => by simp [placesS] at h; subst h; exact .nil
  | (i, x) :: l, ps, h => by
    simp only [placesS] at h
    split at h
    · rename_i f hf
      split at h
      · rename_i k hk
        rw [Option.map_eq_some_iff] at h
        obtain ⟨ps', h1, rfl⟩ := h
        exact .cons _ _ _ _ _ _ (hp i f k hf hk) (placesS_PM fs place hp l ps' h1)
      · cases h
    · cases h

theorem run_places (w : World) : ∀ (fs : List Field), fs.all (fun f => (P.info? f.type).isSome) = true →
    ∃ pl : List (Nat × Nat), (fs.mapM (fun f : Field => do pure (f.offset, ← sizeOf f.type)) : Sem (List (Nat × Nat))).run P w = .ok pl w ∧ ∀ (i : Nat) (f : Field) (k : TypeInfo), fs[i]? = some f → P.info? f.type = some k → pl[i]? = some (f.offset, k.size)
  | [], _ => ⟨[], rfl, fun i f k h => by simp at h⟩
  | f :: fs, h => by
    simp only [List.all_cons, Bool.and_eq_true] at h
    obtain ⟨k0, hk0⟩ := Option.isSome_iff_exists.1 h.1
    obtain ⟨pl, h1, h2⟩ := run_places w fs h.2
    refine ⟨(f.offset, k0.size) :: pl, ?_, fun i g k hg hk => ?_⟩
    · simp only [List.mapM_cons, Sem.run_bind, run_size hk0, Result.andThen_ok, Sem.run_pure, h1]
    · cases i with
      | zero =>
        simp only [List.getElem?_cons_zero, Option.some.injEq] at hg
        subst hg
        rw [hk0] at hk
        cases hk
        rfl
      | succ i => simpa using h2 i g k (by simpa using hg) hk

theorem s_build {cfg : Nat → Nat} {d : Option Nat} {E : List PanicEntry → Store → Prop} {t : TypeId} {i : TypeInfo} {z : Value} {fs : Array Field} {parts : Array (Nat × Operand)} {ps : List (Nat × Nat × Operand)}
    (ht : P.underlying t = some (.struct fs)) (hi : P.info? t = some i) (hz : i.zero = some z) (hall : fs.toList.all (fun f => (P.info? f.type).isSome) = true) (hps : placesS P fs.toList parts.toList = some ps)
    (hI : Inv M w0 σ w) (hR : RegsOK M rg a) (h : vcO P cfg d rg σ K E (.build z.cells.toList ps)) : Gives M w0 K ((Instr.build t (parts.map fun (i, x) => (i, a.eval x))).run P w) := by
  simp only [vcO] at h
  split at h
  · rename_i l hl
    obtain ⟨pl, h1, h2⟩ := run_places (P := P) w fs.toList hall
    obtain ⟨cs', h3, h4⟩ := s_fill hR (fun i : Nat => pl[i]?) parts.toList ps z.cells (z.cells.toList.map .v) l (RL.exact _) (placesS_PM fs.toList _ h2 _ _ hps) hl
    refine Gives.same hI (v := .agg cs') ?_ h ?_
    · have := R.mk_agg h4; simpa using this
    · have h1' : (fs.mapM (fun f : Field => do pure (f.offset, ← sizeOf f.type)) : Sem (Array (Nat × Nat))).run P w = .ok pl.toArray w := by
        rw [Array.mapM_eq_mapM_toList, Sem.run_map, h1]
        rfl
      simp only [Instr.build, Sem.run_bind, run_zero hi hz, Result.andThen_ok, run_under ht, h1', Array.toList_map]
      have e : (fun x : Nat => pl.toArray[x]?) = (fun i : Nat => pl[i]?) := by funext i; simp
      simp only [e, h3, Sem.run_pure]
  · exact h.elim

theorem rowsOf_spec {esz : Nat} : ∀ (xs : List AV) (rows : List (List AV)) (vs : List Value), rowsOf esz xs = some rows → RL M xs vs → RL M rows.flatten (vs.flatMap fun v => v.cells.toList) ∧ rows.length = xs.length ∧
    (∀ i (h : i < rows.length), rows[i].length = esz) ∧ ∀ v ∈ vs, v.cells.size = esz
  | [], rows, vs, h, k => by
    simp [rowsOf] at h; subst h
    obtain rfl := k.unnil
    exact ⟨RL.nil, rfl, fun i hi => absurd hi (by simp), fun v hv => by cases hv⟩
  | x :: xs, rows, vs, h, k => by
    obtain ⟨v, vs', rfl, hx, hxs⟩ := k.uncons
    simp only [rowsOf] at h
    split at h
    · rename_i r hr
      split at h
      · rename_i he
        rw [Option.map_eq_some_iff] at h
        obtain ⟨rows', h1, rfl⟩ := h
        obtain ⟨a1, a2, a3, a4⟩ := rowsOf_spec xs rows' vs' h1 hxs
        have hc := hx.cells hr
        refine ⟨by simpa using RL.append hc a1, by simp [a2], fun i hi => ?_, fun u hu => ?_⟩
        · cases i with
          | zero => exact he
          | succ i => exact a3 i (by simpa using hi)
        · rcases List.mem_cons.1 hu with rfl | hu
          · rw [← he, hc.1, Array.length_toList]
          · exact a4 u hu
      · cases h
    · cases h

/-- Parts that are all there, in order, lie one behind the other. -/
theorem fill_all (esz : Nat) : ∀ (vs : List Value) (k : Nat) (cs : Array Value), (∀ v ∈ vs, v.cells.size = esz) → k * esz + vs.length * esz ≤ cs.size →
    Instr.fill (fun i => some (i * esz, esz)) cs ((List.range' k vs.length).zip vs) = some (over cs.toList (k * esz) (vs.flatMap fun v => v.cells.toList)).toArray
  | [], k, cs, _, _ => by simp [Instr.fill, over]
  | v :: vs, k, cs, h, hl => by
    have hv := h v (by simp)
    have hlen : ∀ vs : List Value, (∀ v ∈ vs, v.cells.size = esz) → (vs.flatMap fun v => v.cells.toList).length = vs.length * esz := by
      intro vs
      induction vs with
      | nil => simp
      | cons u us ih => intro hh; simp only [List.flatMap_cons, List.length_append, Array.length_toList, hh u (by simp), ih (fun w hw => hh w (by simp [hw])), List.length_cons, Nat.succ_mul]; omega
    simp only [List.length_cons, Nat.succ_mul] at hl
    simp only [List.length_cons, List.range'_succ, List.zip_cons_cons, Instr.fill]
    rw [if_neg (by simp; omega)]
    rw [← Array.foldl_toList, Array.toList_zipIdx, fold_set (k * esz) v.cells.toList 0 cs (by simp; omega)]
    simp only [Nat.add_zero]
    rw [fill_all esz vs (k + 1) _ (fun u hu => h u (by simp [hu])) (by simp [over, hv]; rw [Nat.succ_mul]; omega)]
    congr 2
    simp only [over, List.flatMap_cons, List.length_append, Array.length_toList, hv, Nat.succ_mul]
    rw [List.take_append_of_le_length (by simp; omega)]
    have e1 : (cs.toList.take (k * esz) ++ v.cells.toList).length = k * esz + esz := by simp [hv]; omega
    rw [List.take_of_length_le (by omega), List.drop_append, List.drop_of_length_le (by omega), e1]
    simp only [List.nil_append, List.append_assoc, List.drop_drop]
    congr 3
    congr 1
    omega


end
end Go.Sx
