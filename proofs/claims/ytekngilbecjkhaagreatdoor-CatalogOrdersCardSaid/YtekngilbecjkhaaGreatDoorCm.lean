
/- catalog.Order: the states of its walk; rows of names that stay as they are; guarded operations. -/
import Derived.Test.YtekngilbecjkhaaGreatDoorCl
set_option linter.unusedVariables false
set_option linter.unusedSimpArgs false
namespace Go.Proofs.YtekngilbecjkhaaGreatDoor
open Go.RowKit Go.Proofs Go.Tb Go.Maps
open Go.Sx (AV Inv Mem RL R M0 Glob)
theorem wpList_unguard {P : Program} {ops : Array Oper} {rest : List Oper} {o : Oper} {a : Act} {w : World} {Q : Exit → Act → World → Prop} (hw : Region.wanted o (yielded ops a.tmps) = true) (h : wpList P ops Q (⟨o.dst, o.op, o.type, o.pos, o.after, none⟩ :: rest) a w) : wpList P ops Q (o :: rest) a w := by
  unfold wpList at h ⊢
  rw [if_pos hw]
  rw [if_pos (by simp [Region.wanted])] at h
  exact h
/-- v is a slice of the names of L, in a row ahead of block lo. -/
def RowAt (w : World) (lo : Nat) (v : Value) (L : List Str) : Prop := ∃ a cap, v = .slice a L.length cap ∧ L.length ≤ maxLen ∧ ∀ i (hi : i < L.length), ∃ g off, a = some ⟨g, off, none⟩ ∧ g < lo ∧ w.cell? ⟨g, off + i, none⟩ = some (.string L[i])
/-- Rows ahead of block lo stay as they are. -/
def Rk (lo : Nat) (w w' : World) : Prop := ∀ (k : Nat) (cs : Array Value) (t : TypeId) (f : Nat × Nat), k < lo → w.heap[k]? = some (Obj.cells cs t f) → w'.heap[k]? = w.heap[k]?
theorem RowAt.of_names {w : World} {e : TypeId} {l0 lo : Nat} {v : Value} {L : List Str} (h : names w e l0 v L) (hlo : w.heap.size ≤ lo) : RowAt w lo v L := by
  have hl := h.len
  obtain ⟨a, cap, rfl, h1, h2, h3⟩ := h
  refine ⟨a, cap, rfl, hl, fun i hi => ?_⟩
  obtain ⟨g, off, cur, g1, g2, g3, g4, g5⟩ := h3 (by omega)
  have := (Array.getElem?_eq_some_iff.1 g3).1
  exact ⟨g, off, g1, by omega, by rw [cell_at g3]; exact g5 i hi⟩
theorem RowAt.to {w w' : World} {lo : Nat} {v : Value} {L : List Str} (h : RowAt w lo v L) (hk : Rk lo w w') : RowAt w' lo v L := by
  obtain ⟨a, cap, rfl, hl, h3⟩ := h
  refine ⟨a, cap, rfl, hl, fun i hi => ?_⟩
  obtain ⟨g, off, g1, g2, g3⟩ := h3 i hi
  refine ⟨g, off, g1, g2, ?_⟩
  have hc : ∃ cs t f, w.heap[g]? = some (Obj.cells cs t f) := by
    cases hh : w.heap[g]? with
    | none => simp [World.cell?, hh] at g3
    | some o =>
      cases o with
      | cells cs t f => exact ⟨cs, t, f, rfl⟩
      | _ => simp [World.cell?, hh] at g3
  obtain ⟨cs, t, f, hc⟩ := hc
  exact (World.cell?_of_block (a := ⟨g, off + i, none⟩) (hk g cs t f g2 hc)).trans g3
theorem Rk.below {lo : Nat} {w w' : World} (h : Below w.heap.size w w') : Rk lo w w' := fun k cs t f _ hc => h.block k (Array.getElem?_eq_some_iff.1 hc).1
theorem Rk.keep {lo b : Nat} {w w' : World} (h : Keep w w' [b]) (hb : ∀ cs t f, w.heap[b]? ≠ some (Obj.cells cs t f)) : Rk lo w w' := fun k cs t f _ hc => h.block k (Array.getElem?_eq_some_iff.1 hc).1 (by
  rw [List.mem_singleton]; rintro rfl; exact hb _ _ _ hc)
theorem Rk.cellw {lo : Nat} {w w' : World} (h : Cellw lo w w') : Rk lo w w' := fun k cs t f hk hc => h.below k hk (Array.getElem?_eq_some_iff.1 hc).1
theorem not_cells {w : World} {b : Nat} (h : ∃ es c, w.heap[b]? = some (.map es c)) : ∀ cs t f, w.heap[b]? ≠ some (Obj.cells cs t f) := fun cs t f e => by
  obtain ⟨es, c, h⟩ := h; rw [h] at e; cases e
theorem map_not_iter {w : World} {b r : Nat} (h : ∃ es c, w.heap[b]? = some (.map es c)) (hr : ∃ x y z u, w.heap[r]? = some (.mapIter x y z u)) : b ≠ r := fun e => by
  subst e
  obtain ⟨es, c, h⟩ := h
  obtain ⟨x, y, z, u, hr⟩ := hr
  rw [h] at hr; cases hr
/-- A world under way: the order so far. -/
structure OSt (w : World) (fs : List Fea) (bA bd lo : Nat) (vN : Value) (L : List Str) (F : Str → Nat) (out : List Str) (wr : World) (vl : Value) : Prop where
  v : names wr 9 lo vl out
  d : SetAt wr bd out
  a : DepsAt wr bA w.heap.size fs L F
  o : OInv (deps fs) (namesF fs) out
  k : Below w.heap.size w wr
  r : RowAt wr lo vN (namesF fs)
  l1 : w.heap.size ≤ bd
  l2 : bd < lo
  l3 : lo ≤ wr.heap.size
  n1 : bA ≠ bd
  n2 : ∀ n ∈ L, F n ≠ bd
theorem DepsAt.names {w : World} {b lo : Nat} {fs : List Fea} {L : List Str} {F : Str → Nat} (h : DepsAt w b lo fs L F) {S : List Str} (h1 : Srt S) (h2 : ∀ s, s ∈ S ↔ s ∈ L) : S = namesF fs := srt_ext h1 (namesF_srt fs) fun x => by rw [h2, h.l, namesF_mem]
theorem DepsAt.len {w : World} {b lo : Nat} {fs : List Fea} {L : List Str} {F : Str → Nat} (h : DepsAt w b lo fs L F) : L.length ≤ fs.length := Nat.le_trans (nodup_le h.m.1 fun n hn => namesF_mem.2 ((h.l n).1 hn)) (namesF_len fs)
theorem OSt.start {w w1 w2 w4 : World} {fs : List Fea} {bA : Nat} {o : Obj} {vN : Value} {L : List Str} {F : Str → Nat} {e : TypeId} {l0 : Nat} (hw1 : w1 = w.alloc o) (ha : DepsAt w2 bA (w.heap.size + 1) fs L F) (hb : Below (w.heap.size + 1) w1 w2) (hn : names w4 e l0 vN (namesF fs)) (h4 : Below w2.heap.size w2 w4) :
    OSt w fs bA w4.heap.size (w4.heap.size + 1) vN L F [] (w4.alloc (.map #[] 0)) (.slice none 0 0) := by
  subst hw1
  have e1 : (w.alloc o).heap.size = w.heap.size + 1 := by simp
  have l1 := hb.size
  rw [e1] at l1
  have l2 := h4.size
  have hb0 : Below w.heap.size w w2 := below_alloc hb
  have hk : Keep w4 (w4.alloc (.map #[] 0)) [] := (Keep.refl w4 []).alloc _
  have ha4 := ha.below h4
  have lt := ha4.m.lt
  refine ⟨⟨none, 0, rfl, by simp, by simp, fun h => absurd h (by omega)⟩, set_made w4 _ _ _, ⟨(ha4.keep hk (by simp) (by simp)).m, ha4.l, (ha4.keep hk (by simp) (by simp)).s, fun n hn => by have := ha4.g n hn; omega⟩, OInv.start _ _, (hb0.trans (c_less h4 (by omega))).trans (hk.below (by omega) (by simp)), ?_, by omega, by omega, by simp, by omega, fun n hn => ?_⟩
  · exact (RowAt.of_names (hn.alloc _) (by simp))
  · obtain ⟨D, hD, _⟩ := ha4.s n hn
    have := hD.lt; omega
theorem OSt.below {w : World} {fs : List Fea} {bA bd lo : Nat} {vN : Value} {L : List Str} {F : Str → Nat} {out : List Str} {wr w' : World} {vl : Value} (h : OSt w fs bA bd lo vN L F out wr vl) (hb : Below wr.heap.size wr w') : OSt w fs bA bd lo vN L F out w' vl :=
  ⟨names_below h.v hb, set_below h.d hb, h.a.below hb, h.o, h.k.trans (c_less hb h.k.size), h.r.to (.below hb), h.l1, h.l2, Nat.le_trans h.l3 hb.size, h.n1, h.n2⟩
theorem OSt.iter {w : World} {fs : List Fea} {bA bd lo : Nat} {vN : Value} {L : List Str} {F : Str → Nat} {out : List Str} {wr w' : World} {vl : Value} {r : Nat} (h : OSt w fs bA bd lo vN L F out wr vl) (hit : ∃ x y z u, wr.heap[r]? = some (.mapIter x y z u)) (hr : lo ≤ r) (hg : wr.grownBy w' (some r)) : OSt w fs bA bd lo vN L F out w' vl := by
  have hk := Keep.of_grown hg
  have hc : ∀ cs t f, wr.heap[r]? ≠ some (Obj.cells cs t f) := fun cs t f e => by obtain ⟨x, y, z, u, hit⟩ := hit; rw [hit] at e; cases e
  have l1 := h.l1
  have l2 := h.l2
  have l3 := h.l3
  refine ⟨h.v.grown hg hc, set_keep h.d hk (by simpa using map_not_iter h.d.isMap hit), h.a.keep hk (by simpa using map_not_iter h.a.m.isMap hit) (fun n hn => ?_), h.o, h.k.trans (hk.below h.k.size (by simp; omega)), h.r.to (.keep hk hc), h.l1, h.l2, Nat.le_trans h.l3 hg.size, h.n1, h.n2⟩
  obtain ⟨D, hD, _⟩ := h.a.s n hn
  simpa using map_not_iter hD.isMap hit
/-- The next name: marked, then behind the others. -/
theorem OSt.mid {w : World} {fs : List Fea} {bA bd lo : Nat} {vN : Value} {L : List Str} {F : Str → Nat} {out : List Str} {wr w2 : World} {vl : Value} (h : OSt w fs bA bd lo vN L F out wr vl) (hg : wr.grownBy w2 (some bd)) (o : Obj) : names (w2.alloc o) 9 lo vl out ∧ lo ≤ (w2.alloc o).heap.size := by
  have := h.l3
  have := hg.size
  exact ⟨(h.v.grown hg (not_cells h.d.isMap)).alloc o, by simp; omega⟩
theorem OSt.put {w : World} {fs : List Fea} {bA bd lo : Nat} {vN : Value} {L : List Str} {F : Str → Nat} {out : List Str} {wr w2 w3 : World} {vl vl' : Value} {s : Str} (h : OSt w fs bA bd lo vN L F out wr vl) (hn : ordNext (deps fs) (namesF fs) out = some s) (hs : SetAt w2 bd (ins out s)) (hg : wr.grownBy w2 (some bd)) (o : Obj) (hv : names w3 9 lo vl' (out ++ [s])) (hc : Cellw lo (w2.alloc o) w3) :
    OSt w fs bA bd lo vN L F (out ++ [s]) w3 vl' := by
  have hk := Keep.of_grown hg
  have l1 := h.l1
  have l2 := h.l2
  have l3 := h.l3
  have lw := h.k.size
  have sz := hg.size
  have hno : s ∉ out := (ready_iff.1 (List.find?_some hn)).1
  have e1 : ins out s = out ++ [s] := by unfold ins; rw [if_neg hno]
  have ha : DepsAt w2 bA w.heap.size fs L F := h.a.keep hk (by simpa using h.n1) (fun n hn => by simpa using h.n2 n hn)
  have ha2 : DepsAt (w2.alloc o) bA w.heap.size fs L F := ha.keep ((Keep.refl w2 []).alloc o) (by simp) (by simp)
  have b2 : Below w.heap.size wr w2 := hk.below lw (by simp; omega)
  have b3 : Below w.heap.size w2 (w2.alloc o) := ⟨rfl, rfl, rfl, by simp, fun k hk => heap_alloc_old w2 o (by omega)⟩
  have b4 : Below w.heap.size (w2.alloc o) w3 := ⟨hc.os, hc.tape, hc.output, hc.size, fun k hk => hc.below k (by omega) (by simp; omega)⟩
  refine ⟨hv, ?_, ⟨ha2.m.cellw hc, ha2.l, fun n hn => ?_, ha2.g⟩, (h.o.step hn).1, ((h.k.trans b2).trans b3).trans b4, ?_, h.l1, h.l2, ?_, h.n1, h.n2⟩
  · rw [← e1]; exact (tbl.alloc hs o).cellw hc
  · obtain ⟨D, h1, h2⟩ := ha2.s n hn
    exact ⟨D, h1.cellw hc, h2⟩
  · exact ((h.r.to (.keep hk (not_cells h.d.isMap))).to (.below (((Keep.refl w2 []).alloc o).below (Nat.le_refl _) (by simp)))).to (.cellw hc)
  · have := hc.size; simp at this; omega
/-- The look at what a name uses, under way. -/
structure OIt (w : World) (fs : List Fea) (bA bd lo : Nat) (vN : Value) (L : List Str) (F : Str → Nat) (out : List Str) (s : Str) (D : List Str) (r : Nat) (left : Str → Prop) (cnt : Nat) (b : Bool) (wr : World) (vl : Value) : Prop where
  o : OSt w fs bA bd lo vN L F out wr vl
  q : rng wr Tryz.prog 9 (plainElem Tryz.prog 4) (F s) r D (fun _ => tt) left cnt
  b : b = true ↔ s ∉ out ∧ ∀ m ∈ D, ¬ left m → m ∈ out
  r : lo ≤ r
theorem OIt.start {w : World} {fs : List Fea} {bA bd lo : Nat} {vN : Value} {L : List Str} {F : Str → Nat} {out : List Str} {s : Str} {D : List Str} {cnt : Nat} {wr w' : World} {vl : Value} (h : OSt w fs bA bd lo vN L F out wr vl) (hr : rng w' Tryz.prog 9 (plainElem Tryz.prog 4) (F s) wr.heap.size D (fun _ => tt) (· ∈ D) cnt) (hg : wr.grownBy w' none) :
    OIt w fs bA bd lo vN L F out s D wr.heap.size (· ∈ D) cnt (!decide (s ∈ out)) w' vl :=
  ⟨h.below ((Keep.of_none hg []).below (Nat.le_refl _) (by simp)), hr, by
    rw [Bool.not_eq_true', decide_eq_false_iff_not]
    exact ⟨fun h1 => ⟨h1, fun m hm hn => absurd hm hn⟩, fun h1 => h1.1⟩, h.l3⟩
theorem OIt.next {w : World} {fs : List Fea} {bA bd lo : Nat} {vN : Value} {L : List Str} {F : Str → Nat} {out : List Str} {s : Str} {D : List Str} {r : Nat} {left : Str → Prop} {cnt cnt' : Nat} {b : Bool} {wr w' : World} {vl : Value} {m : Str} (h : OIt w fs bA bd lo vN L F out s D r left cnt b wr vl) (hm : m ∈ D)
    (hr : rng w' Tryz.prog 9 (plainElem Tryz.prog 4) (F s) r D (fun _ => tt) (fun x => left x ∧ x ≠ m) cnt') (hg : wr.grownBy w' (some r)) : OIt w fs bA bd lo vN L F out s D r (fun x => left x ∧ x ≠ m) cnt' (b && decide (m ∈ out)) w' vl ∨ ¬ left m := by
  by_cases hl : left m
  · refine .inl ⟨h.o.iter h.q.iter h.r hg, hr, ?_, h.r⟩
    rw [Bool.and_eq_true, h.b, decide_eq_true_eq]
    constructor
    · rintro ⟨⟨h1, h2⟩, h3⟩
      refine ⟨h1, fun x hx hn => ?_⟩
      by_cases e : x = m
      · rw [e]; exact h3
      · exact h2 x hx fun h' => hn ⟨h', e⟩
    · rintro ⟨h1, h2⟩
      exact ⟨⟨h1, fun x hx hn => h2 x hx fun h' => hn h'.1⟩, h2 m hm fun h' => h'.2 rfl⟩
  · exact .inr hl
theorem OIt.done {w : World} {fs : List Fea} {bA bd lo : Nat} {vN : Value} {L : List Str} {F : Str → Nat} {out : List Str} {s : Str} {D : List Str} {r : Nat} {left : Str → Prop} {cnt : Nat} {b : Bool} {wr : World} {vl : Value} (h : OIt w fs bA bd lo vN L F out s D r left cnt b wr vl) (hd : ∀ s : Str, s.size ≤ maxLen → ¬ left s) (hD : ∀ m, m ∈ D ↔ m ∈ deps fs s) : b = ready (deps fs) out s := by
  rw [Bool.eq_iff_iff, h.b, ready_iff]
  constructor
  · rintro ⟨h1, h2⟩; exact ⟨h1, fun m hm => h2 m ((hD m).2 hm) (hd m (h.q.2.1 m ((hD m).2 hm)))⟩
  · rintro ⟨h1, h2⟩; exact ⟨h1, fun m hm _ => h2 m ((hD m).1 hm)⟩
theorem ordNext_at {g : Str → List Str} {N out : List Str} {k : Nat} (hk : k < N.length) (hp : ∀ j (hj : j < N.length), j < k → ready g out N[j] = false) (h : ready g out N[k] = true) : ordNext g N out = some N[k] := by
  unfold ordNext
  rw [List.find?_eq_some_iff_getElem]
  exact ⟨h, k, hk, rfl, fun j hj => by simpa using hp j (Nat.lt_trans hj hk) hj⟩
theorem ordNext_no {g : Str → List Str} {N out : List Str} (hp : ∀ j (hj : j < N.length), ready g out N[j] = false) : ordNext g N out = none := by
  unfold ordNext
  rw [List.find?_eq_none]
  intro x hx
  obtain ⟨j, hj, rfl⟩ := List.getElem_of_mem hx
  simpa using hp j hj
end Go.Proofs.YtekngilbecjkhaaGreatDoor
