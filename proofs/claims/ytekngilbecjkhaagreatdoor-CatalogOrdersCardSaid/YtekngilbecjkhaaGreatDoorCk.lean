
/- catalog.dependencies: the states of its walk. -/
import Derived.Test.YtekngilbecjkhaaGreatDoorCi
import Derived.Test.YtekngilbecjkhaaGreatDoorDb
set_option linter.unusedVariables false
set_option linter.unusedSimpArgs false
namespace Go.Proofs.YtekngilbecjkhaaGreatDoor
open Go.RowKit Go.Proofs Go.Tb Go.Maps
open Go.Sx (AV Inv Mem RL R M0 Glob)
theorem getD_in {α : Type} [Inhabited α] {l : List α} {i : Nat} (h : i < l.length) : l.getD i default ∈ l := by
  rw [show l.getD i default = l[i] by simp [List.getD_eq_getElem?_getD, h]]; exact List.getElem_mem _
/-- Not too many names, none too long. -/
structure CFit (fs : List Fea) : Prop where
  f : ∀ f ∈ fs, f.body.feats.length ≤ 274877906944 ∧ f.body.tabs.length ≤ 274877906944 ∧ (∀ s ∈ f.body.feats, s.size ≤ maxLen) ∧ ∀ s ∈ f.body.tabs, s.size ≤ maxLen
  n : ∀ f ∈ fs, f.name.size ≤ maxLen
  l : fs.length ≤ 274877906944
theorem maps_below {w w' : World} {b : Nat} {L : List Str} {f : Str → Nat} (h : MapsAt w b L f) (hb : Below w.heap.size w w') : MapsAt w' b L f := maps_keep h (Keep.of_below hb []) (by simp)
theorem Fea.parts {M : Mem} {f : Fea} {C : Array Value} (h : RL M f.cells C.toList) : C.size = 18 ∧ C.all (·.oneCell') = true ∧ C[0]? = some (.string f.name) := by
  refine ⟨?_, by rw [← Array.all_toList]; exact h.all_one rfl, ?_⟩
  · have h1 := h.1
    have h2 : f.cells.length = 18 := rfl
    have h3 : C.toList.length = C.size := Array.length_toList
    omega
  · obtain ⟨v, h1, h2⟩ := h.get (i := 0) (x := sv f.name) rfl
    rw [h2.of_v] at h1
    simpa using h1
/-- The features' cells. -/
theorem Cat.feats {M : Mem} {c : Cat} {C : Array Value} (h : RL M c.cells C.toList) : ∃ v0 v2 v3 a cap, C = #[v0, .slice a c.features.length cap, v2, v3] ∧ c.features.length ≤ maxLen ∧
    ∀ i (hi : i < c.features.length), ∃ bb off, a = some ⟨bb, off, none⟩ ∧ ∃ F : Array Value, RL M (c.features.getD i default).cells F.toList ∧ F.toList.length = 18 ∧ ∀ j (hj : j < F.toList.length), M bb (off + i * 18 + j) = some F.toList[j] := by
  obtain ⟨v0, l0, e0, h0, h⟩ := h.uncons
  obtain ⟨v1, l1, rfl, h1, h⟩ := h.uncons
  obtain ⟨v2, l2, rfl, h2, h⟩ := h.uncons
  obtain ⟨v3, l3, rfl, h3, h⟩ := h.uncons
  obtain rfl := h.unnil
  have hlen := sl_len h1
  rw [List.length_map] at hlen
  obtain ⟨a, cap, rfl, hA⟩ := c_rows h1
  rw [List.length_map] at e0
  refine ⟨v0, v2, v3, a, cap, ?_, hlen, fun i hi => ?_⟩
  · rw [← Array.toList_inj, e0]
  · obtain ⟨bb, off, e, cs', g1, g2, g3⟩ := hA i (by rw [List.length_map]; exact hi)
    refine ⟨bb, off, e, cs'.toArray, ?_, by simpa using g2, fun j hj => by simpa using g3 j (by simpa using hj)⟩
    rw [List.getElem_map] at g1
    rw [show c.features.getD i default = c.features[i] by simp [List.getD_eq_getElem?_getD, hi]]
    simpa using g1
/-- What the walk's first loop holds to. -/
structure DSt (w : World) (fs : List Fea) (i : Nat) (L : List Str) (F : Str → Nat) (wr : World) : Prop where
  m : MapsAt wr (w.heap.size + 1) L F
  l : ∀ n, n ∈ L ↔ ∃ j, j < i ∧ (fs.getD j default).name = n
  s : ∀ n ∈ L, ∃ f, findF fs n = some f ∧ SetAt wr (F n) (insAll [] f.body.feats)
  inj : ∀ a ∈ L, ∀ b ∈ L, F a = F b → a = b
  g : ∀ n ∈ L, w.heap.size + 2 < F n
  k : Below w.heap.size w wr
  v : wr.heap[w.heap.size + 2]? = some (.cells #[.map (some (w.heap.size + 1))] 76 (0, 0))
theorem DSt.start (w : World) (o : Obj) (fs : List Fea) (F : Str → Nat) : DSt w fs 0 [] F (((w.alloc o).alloc (.map #[] 0)).alloc (.cells #[.map (some (w.heap.size + 1))] 76)) := by
  have h1 := tbl_made (w.alloc o) Tryz.prog 9 mapElem (fun s => .lit (.int .i64 (F s)))
  rw [show (w.alloc o).heap.size = w.heap.size + 1 by simp] at h1
  have h2 := heap_alloc_new ((w.alloc o).alloc (.map #[] 0)) (.cells #[.map (some (w.heap.size + 1))] 76)
  rw [show ((w.alloc o).alloc (.map #[] 0)).heap.size = w.heap.size + 2 by simp] at h2
  exact ⟨h1.alloc _, fun n => ⟨fun h => (by cases h), fun ⟨j, hj, _⟩ => absurd hj (by omega)⟩, fun n h => (by cases h), fun a h => (by cases h), fun a h => (by cases h), ((((Keep.refl w []).alloc _).alloc _).alloc _).below (Nat.le_refl _) (by simp), h2⟩
theorem DSt.to {w : World} {fs : List Fea} {i : Nat} {L : List Str} {F : Str → Nat} {wr w' : World} (h : DSt w fs i L F wr) (hb : Below wr.heap.size wr w') : DSt w fs i L F w' :=
  ⟨maps_below h.m hb, h.l, fun n hn => by obtain ⟨f, h1, h2⟩ := h.s n hn; exact ⟨f, h1, set_below h2 hb⟩, h.inj, h.g, h.k.trans (c_less hb h.k.size), by rw [hb.block _ (Array.getElem?_eq_some_iff.1 h.v).1]; exact h.v⟩
theorem DSt.skip {w : World} {fs : List Fea} {i : Nat} {L : List Str} {F : Str → Nat} {wr : World} (h : DSt w fs i L F wr) (hm : (fs.getD i default).name ∈ L) : DSt w fs (i + 1) L F wr :=
  ⟨h.m, fun n => by
    rw [h.l]
    constructor
    · rintro ⟨j, hj, e⟩; exact ⟨j, by omega, e⟩
    · rintro ⟨j, hj, e⟩
      rcases Nat.lt_or_eq_of_le (Nat.le_of_lt_succ hj) with h1 | rfl
      · exact ⟨j, h1, e⟩
      · rw [e] at hm; exact (h.l n).1 hm, h.s, h.inj, h.g, h.k, h.v⟩
theorem findF_first {fs : List Fea} {n : Str} {i : Nat} (hi : i < fs.length) (hn : (fs.getD i default).name = n) (hp : ∀ j, j < i → (fs.getD j default).name ≠ n) : findF fs n = some (fs.getD i default) := by
  unfold findF
  rw [show fs.getD i default = fs[i] by simp [List.getD_eq_getElem?_getD, hi]] at hn ⊢
  rw [List.find?_eq_some_iff_getElem]
  refine ⟨by simpa using hn, i, hi, rfl, fun j hj => ?_⟩
  have := hp j hj
  rw [show fs.getD j default = fs[j] by simp [List.getD_eq_getElem?_getD, Nat.lt_trans hj hi]] at this
  simpa using this
theorem DSt.put {w : World} {fs : List Fea} {i : Nat} {L : List Str} {F : Str → Nat} {wr w' : World} {b : Nat} (h : DSt w fs i L F wr) (hi : i < fs.length) (hm : (fs.getD i default).name ∉ L) (hs : SetAt wr b (insAll [] (fs.getD i default).body.feats)) (hb : w.heap.size + 2 < b) (hbF : ∀ n ∈ L, F n ≠ b)
    (hw : MapsAt w' (w.heap.size + 1) (ins L (fs.getD i default).name) (fun x => if x = (fs.getD i default).name then b else F x)) (hg : wr.grownBy w' (some (w.heap.size + 1))) : DSt w fs (i + 1) (ins L (fs.getD i default).name) (fun x => if x = (fs.getD i default).name then b else F x) w' := by
  have hk := Keep.of_grown hg
  refine ⟨hw, fun n => ?_, fun n hn => ?_, fun x hx y hy e => ?_, fun n hn => ?_, h.k.trans (hk.below h.k.size (by simp)), ?_⟩
  · rw [ins_mem, h.l]
    constructor
    · rintro (rfl | ⟨j, hj, e⟩)
      · exact ⟨i, by omega, rfl⟩
      · exact ⟨j, by omega, e⟩
    · rintro ⟨j, hj, e⟩
      rcases Nat.lt_or_eq_of_le (Nat.le_of_lt_succ hj) with h1 | rfl
      · exact .inr ⟨j, h1, e⟩
      · exact .inl e.symm
  · by_cases e : n = (fs.getD i default).name
    · refine ⟨fs.getD i default, findF_first hi e.symm (fun j hj e' => hm ((h.l _).2 ⟨j, hj, e'.trans e⟩)), ?_⟩
      rw [if_pos e]; exact set_keep hs hk (by simp; omega)
    · have hn' : n ∈ L := by
        rcases ins_mem.1 hn with h1 | h1
        · exact absurd h1 e
        · exact h1
      obtain ⟨f, h1, h2⟩ := h.s n hn'
      have := h.g n hn'
      refine ⟨f, h1, ?_⟩
      rw [if_neg e]; exact set_keep h2 hk (by simp; omega)
  · have hx' := ins_mem.1 hx
    have hy' := ins_mem.1 hy
    by_cases e1 : x = (fs.getD i default).name <;> by_cases e2 : y = (fs.getD i default).name
    · rw [e1, e2]
    · rw [if_pos e1, if_neg e2] at e
      exact absurd e.symm (hbF y (hy'.resolve_left e2))
    · rw [if_neg e1, if_pos e2] at e
      exact absurd e (hbF x (hx'.resolve_left e1))
    · rw [if_neg e1, if_neg e2] at e
      exact h.inj x (hx'.resolve_left e1) y (hy'.resolve_left e2) e
  · show _ < if n = _ then b else F n
    split
    · exact hb
    · rename_i e
      exact h.g n ((ins_mem.1 hn).resolve_left e)
  · rw [hk.block _ (Array.getElem?_eq_some_iff.1 h.v).1 (by simp)]; exact h.v
theorem DSt.len {w : World} {fs : List Fea} {i : Nat} {L : List Str} {F : Str → Nat} {wr : World} (h : DSt w fs i L F wr) : L.length ≤ i := by
  have h1 := nodup_le (a := L) (b := (List.range i).map fun j => (fs.getD j default).name) h.m.1 fun n hn => by
    obtain ⟨j, hj, e⟩ := (h.l n).1 hn
    exact List.mem_map.2 ⟨j, List.mem_range.2 hj, e⟩
  simpa using h1
theorem DSt.new {w : World} {fs : List Fea} {i : Nat} {L : List Str} {F : Str → Nat} {wr : World} (h : DSt w fs i L F wr) : w.heap.size + 2 < wr.heap.size ∧ ∀ n ∈ L, F n < wr.heap.size :=
  ⟨(Array.getElem?_eq_some_iff.1 h.v).1, fun n hn => by obtain ⟨f, _, h2⟩ := h.s n hn; exact h2.lt⟩
/-- What the body directly uses, into a new map. -/
theorem dep_dir {f : Fea} {fs : List Fea} (hF : CFit fs) (hf : f ∈ fs) {wr w2 : World} {M : Mem} {Cf : Array Value} (hI : Inv Tryz.prog M wr [] wr) (hk2 : Below wr.heap.size wr w2) (hs2 : w2.heap.size = wr.heap.size + 1) (hr2 : w2.heap[wr.heap.size]? = some (.cells Cf 49 (0, 0))) (hRf : RL M f.cells Cf.toList) :
    Calls Tryz.prog 45 #[.agg ((Cf.toList.drop 5).take 12).toArray, .map (some (wr.heap.size + 1)), .map (some (wr.heap.size + 2))] ((w2.alloc (.map #[] 0)).alloc (.map #[] 0)) fun e w3 => (∃ v, e = .returned v) ∧ SetAt w3 (wr.heap.size + 1) (insAll [] f.body.feats) ∧
      Below wr.heap.size wr w3 ∧ w3.heap[wr.heap.size]? = some (.cells Cf 49 (0, 0)) := by
  have hb2 : Below wr.heap.size wr ((w2.alloc (.map #[] 0)).alloc (.map #[] 0)) := (hk2.alloc (by omega) _).alloc (by simp; omega) _
  have h1 : SetAt ((w2.alloc (.map #[] 0)).alloc (.map #[] 0)) (wr.heap.size + 1) [] := by
    have := set_made w2 Tryz.prog 9 4
    rw [hs2] at this; exact this.alloc _
  have h2 : SetAt ((w2.alloc (.map #[] 0)).alloc (.map #[] 0)) (wr.heap.size + 2) [] := by
    have := set_made (w2.alloc (.map #[] 0)) Tryz.prog 9 4
    rw [show (w2.alloc (.map #[] 0)).heap.size = wr.heap.size + 2 by simp; omega] at this; exact this
  obtain ⟨l1, l2, l3, l4⟩ := hF.f f hf
  have hsz : ((w2.alloc (.map #[] 0)).alloc (.map #[] 0)).heap.size = wr.heap.size + 3 := by simp; omega
  refine (direct_ok f.body.size f.body (Nat.le_refl _) M _ (c_inv hI hb2) ((Cf.toList.drop 5).take 12).toArray (by simpa using body_at hRf) (wr.heap.size + 1) (wr.heap.size + 2) [] [] h1 h2 (by omega) (by simp; omega) (by simp; omega) l3 l4).mono fun e w3 ⟨g1, g2, g3, g4⟩ => ⟨g1, g2, ?_, ?_⟩
  · exact hb2.trans (g4.below (by omega) (by simp))
  · rw [g4.block _ (by omega) (by simp), heap_alloc_old _ _ (by simp; omega), heap_alloc_old _ _ (by omega)]; exact hr2
/-- What the walk's second loop holds to. -/
structure DIn (w : World) (fs : List Fea) (L : List Str) (F : Str → Nat) (r : Nat) (left : Str → Prop) (cnt : Nat) (wr : World) : Prop where
  q : rng wr Tryz.prog 9 mapElem (w.heap.size + 1) r L (fun s => .lit (.int .i64 (F s))) left cnt
  l : ∀ n, n ∈ L ↔ inF fs n = true
  s : ∀ n ∈ L, ∃ f, findF fs n = some f ∧ (left n → SetAt wr (F n) (insAll [] f.body.feats)) ∧ (¬ left n → SetAt wr (F n) ((insAll [] f.body.feats).filter fun s => decide (s ∈ L)))
  inj : ∀ a ∈ L, ∀ b ∈ L, F a = F b → a = b
  g : ∀ n ∈ L, w.heap.size + 2 < F n
  k : Below w.heap.size w wr
  v : wr.heap[w.heap.size + 2]? = some (.cells #[.map (some (w.heap.size + 1))] 76 (0, 0))
  rr : w.heap.size + 2 < r
theorem DIn.start {w : World} {fs : List Fea} {L : List Str} {F : Str → Nat} {wr w' : World} {cnt : Nat} (h : DSt w fs fs.length L F wr) (hr : rng w' Tryz.prog 9 mapElem (w.heap.size + 1) wr.heap.size L (fun s => .lit (.int .i64 (F s))) (· ∈ L) cnt) (hg : wr.grownBy w' none) : DIn w fs L F wr.heap.size (· ∈ L) cnt w' := by
  have hk := Keep.of_none hg []
  have lt := (Array.getElem?_eq_some_iff.1 h.v).1
  refine ⟨hr, fun n => ?_, fun n hn => ?_, h.inj, h.g, h.k.trans (hk.below h.k.size (by simp)), by rw [hk.block _ lt (by simp)]; exact h.v, lt⟩
  · rw [h.l, inF_iff]
    constructor
    · rintro ⟨j, hj, e⟩
      refine ⟨fs.getD j default, ?_, e⟩
      rw [show fs.getD j default = fs[j] by simp [List.getD_eq_getElem?_getD, hj]]; exact List.getElem_mem _
    · rintro ⟨f, hf, e⟩
      obtain ⟨j, hj, rfl⟩ := List.getElem_of_mem hf
      exact ⟨j, hj, by rw [show fs.getD j default = fs[j] by simp [List.getD_eq_getElem?_getD, hj]]; exact e⟩
  · obtain ⟨f, h1, h2⟩ := h.s n hn
    exact ⟨f, h1, fun _ => set_keep h2 hk (by simp), fun hl => absurd hn hl⟩
/-- The iterator has turned; the set at s is struck. -/
theorem DIn.step {w : World} {fs : List Fea} {L : List Str} {F : Str → Nat} {r : Nat} {left : Str → Prop} {cnt cnt' : Nat} {wr w' : World} {s : Str} (h : DIn w fs L F r left cnt wr) (hsL : s ∈ L) (hl : left s) (hr : rng w' Tryz.prog 9 mapElem (w.heap.size + 1) r L (fun s => .lit (.int .i64 (F s))) (fun x => left x ∧ x ≠ s) cnt') (hg : wr.grownBy w' (some r)) :
    ∃ f, findF fs s = some f ∧ SetAt w' (F s) (insAll [] f.body.feats) ∧ MapsAt w' (w.heap.size + 1) L F ∧ w'.cell? ⟨w.heap.size + 2, 0, none⟩ = some (.map (some (w.heap.size + 1))) ∧ F s ≠ w.heap.size + 1 ∧
      ∀ w2, SetAt w2 (F s) ((insAll [] f.body.feats).filter fun s => decide (s ∈ L)) → w'.grownBy w2 (some (F s)) → DIn w fs L F r (fun x => left x ∧ x ≠ s) cnt' w2 := by
  have hk := Keep.of_grown hg
  have rr := h.rr
  obtain ⟨f, h1, h2, _⟩ := h.s s hsL
  have gs := h.g s hsL
  obtain ⟨x, y, z, u, hit⟩ := h.q.iter
  have ne : ∀ n ∈ L, F n ≠ r := fun n hn e => by
    obtain ⟨f', _, h3, h4⟩ := h.s n hn
    have : ∃ D, SetAt wr (F n) D := by
      by_cases hl : left n
      · exact ⟨_, h3 hl⟩
      · exact ⟨_, h4 hl⟩
    obtain ⟨D, hD⟩ := this
    obtain ⟨es, c, hm⟩ := hD.isMap
    rw [e, hit] at hm; cases hm
  have hv : w'.heap[w.heap.size + 2]? = some (.cells #[.map (some (w.heap.size + 1))] 76 (0, 0)) := by rw [hk.block _ (Array.getElem?_eq_some_iff.1 h.v).1 (by simp; omega)]; exact h.v
  refine ⟨f, h1, set_keep (h2 hl) hk (by simpa using ne s hsL), hr.tbl, by simp [World.cell?, hv], by omega, fun w2 hs2 hg2 => ?_⟩
  have hk2 := Keep.of_grown hg2
  refine ⟨hr.kept hg2 (by simp; omega) (by simpa using fun e => ne s hsL e.symm), h.l, fun n hn => ?_, h.inj, h.g, (h.k.trans (hk.below h.k.size (by simp; omega))).trans (hk2.below (by have := h.k.size; have := hk.size; omega) (by simp; omega)), by rw [hk2.block _ (Array.getElem?_eq_some_iff.1 hv).1 (by simp; omega)]; exact hv, rr⟩
  obtain ⟨f', g1, g2, g3⟩ := h.s n hn
  by_cases e : n = s
  · subst e
    rw [h1] at g1; cases g1
    exact ⟨f, h1, fun hl => absurd rfl hl.2, fun _ => hs2⟩
  · have hne : F n ≠ F s := fun e' => e (h.inj n hn s hsL e')
    refine ⟨f', g1, fun hl => ?_, fun hl => ?_⟩
    · exact set_keep (set_keep (g2 hl.1) hk (by simpa using ne n hn)) hk2 (by simpa using hne)
    · exact set_keep (set_keep (g3 fun h' => hl ⟨h', e⟩) hk (by simpa using ne n hn)) hk2 (by simpa using hne)
/-- What each feature in force directly uses, of the features in force. -/
structure DepsAt (w : World) (b lo : Nat) (fs : List Fea) (L : List Str) (F : Str → Nat) : Prop where
  m : MapsAt w b L F
  l : ∀ n, n ∈ L ↔ inF fs n = true
  s : ∀ n ∈ L, ∃ D, SetAt w (F n) D ∧ ∀ m, m ∈ D ↔ m ∈ deps fs n
  g : ∀ n ∈ L, lo ≤ F n
theorem DIn.done {w : World} {fs : List Fea} {L : List Str} {F : Str → Nat} {r : Nat} {left : Str → Prop} {cnt : Nat} {wr : World} (h : DIn w fs L F r left cnt wr) (hd : ∀ s : Str, s.size ≤ maxLen → ¬ left s) : DepsAt wr (w.heap.size + 1) w.heap.size fs L F := by
  refine ⟨h.q.tbl, h.l, fun n hn => ?_, fun n hn => by have := h.g n hn; omega⟩
  obtain ⟨f, h1, _, h3⟩ := h.s n hn
  refine ⟨_, h3 (hd n (h.q.2.1 n hn)), fun m => ?_⟩
  rw [List.mem_filter, insAll_mem, deps_mem]
  simp only [decide_eq_true_eq, h.l]
  constructor
  · rintro ⟨h4 | h4, h5⟩
    · exact ⟨f, h1, h4, h5⟩
    · cases h4
  · rintro ⟨f', h4, h5, h6⟩
    rw [h1] at h4; cases h4
    exact ⟨.inl h5, h6⟩
theorem DepsAt.keep {w w' : World} {b lo : Nat} {fs : List Fea} {L : List Str} {F : Str → Nat} {l : List Nat} (h : DepsAt w b lo fs L F) (hk : Keep w w' l) (hb : b ∉ l) (hl : ∀ n ∈ L, F n ∉ l) : DepsAt w' b lo fs L F :=
  ⟨maps_keep h.m hk hb, h.l, fun n hn => by obtain ⟨D, h1, h2⟩ := h.s n hn; exact ⟨D, set_keep h1 hk (hl n hn), h2⟩, h.g⟩
theorem DepsAt.below {w w' : World} {b lo : Nat} {fs : List Fea} {L : List Str} {F : Str → Nat} (h : DepsAt w b lo fs L F) (hb : Below w.heap.size w w') : DepsAt w' b lo fs L F := h.keep (Keep.of_below hb []) (by simp) (by simp)
end Go.Proofs.YtekngilbecjkhaaGreatDoor
