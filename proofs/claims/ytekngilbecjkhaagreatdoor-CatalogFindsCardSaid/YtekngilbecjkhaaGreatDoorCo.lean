
/- catalog.shortest: the states of its walk. -/
import Derived.Test.YtekngilbecjkhaaGreatDoorCk
import Derived.Test.YtekngilbecjkhaaGreatDoorDa
import Derived.Test.YtekngilbecjkhaaGreatDoorShelfD
set_option linter.unusedVariables false
set_option linter.unusedSimpArgs false
namespace Go.Proofs.YtekngilbecjkhaaGreatDoor
open Go.RowKit Go.Proofs Go.Tb Go.Maps
open Go.Sx (AV Inv Mem RL R M0 Glob)
structure PRow (base : Nat) (a : Str) (n : Nat) (P : List (List Str)) (vals : List Value) (v : Value) (wr : World) : Prop where
  r : wr.ownsRow base 39 1 v P.length vals
  l : vals.length = P.length
  p : ∀ (i : Nat) (h1 : i < vals.length) (h2 : i < P.length), wr.ownsRow base 9 1 vals[i] n ((a :: P[i]).map .string)
theorem own_lt {w : World} {base : Nat} {e : TypeId} {v : Value} {n : Nat} {xs : List Value} (h : w.ownsRow base e 1 v n xs) {k : Nat} (hk : v.ownBlock = some k) : ∃ cur, w.heap[k]? = some (.cells cur e (0, 0)) := by
  rcases h.2 with ⟨rfl, _⟩ | ⟨g, cap, cur, rfl, hb, hg, _⟩
  · simp [Value.ownBlock] at hk
  · simp [Value.ownBlock] at hk; subst hk; exact ⟨cur, hg⟩
theorem own_below {w w' : World} {base : Nat} {e : TypeId} {v : Value} {n : Nat} {xs : List Value} (h : w.ownsRow base e 1 v n xs) (hb : Below w.heap.size w w') : w'.ownsRow base e 1 v n xs := by
  refine ⟨h.1, ?_⟩
  rcases h.2 with hn | ⟨g, cap, cur, rfl, hbb, hgg, rest⟩
  · exact .inl hn
  · exact .inr ⟨g, cap, cur, rfl, hbb, by rw [hb.block g (Array.getElem?_eq_some_iff.1 hgg).1]; exact hgg, rest⟩
theorem PRow.below {base : Nat} {a : Str} {n : Nat} {P : List (List Str)} {vals : List Value} {v : Value} {w w' : World} (h : PRow base a n P vals v w) (hb : Below w.heap.size w w') : PRow base a n P vals v w' :=
  ⟨own_below h.r hb, h.l, fun i h1 h2 => own_below (h.p i h1 h2) hb⟩
theorem own_ne {w : World} {base : Nat} {e : TypeId} {v : Value} {n : Nat} {xs : List Value} (h : w.ownsRow base e 1 v n xs) {b : Nat} (hb : ∀ cur, w.heap[b]? ≠ some (.cells cur e (0, 0))) : v.ownBlock ≠ some b := fun e' => by
  obtain ⟨cur, hc⟩ := own_lt h e'; exact hb cur hc
theorem PRow.map {base : Nat} {a : Str} {n : Nat} {P : List (List Str)} {vals : List Value} {v : Value} {w w' : World} {b : Nat} (h : PRow base a n P vals v w) (hb : ∃ es c, w.heap[b]? = some (.map es c)) (hg : w.grownBy w' (some b)) : PRow base a n P vals v w' :=
  ⟨h.r.kept hg (.inr (own_ne h.r fun cur => not_cells hb cur _ _)), h.l, fun i h1 h2 => (h.p i h1 h2).kept hg (.inr (own_ne (h.p i h1 h2) fun cur => not_cells hb cur _ _))⟩
theorem PRow.other {base : Nat} {a : Str} {n : Nat} {P : List (List Str)} {vals : List Value} {v v' : Value} {w w' : World} {xs : List Value} {k base' : Nat} (h : PRow base a n P vals v w) (h' : w.ownsRow base' 39 1 v' k xs) (hne : ∀ g, v'.ownBlock = some g → v.ownBlock ≠ some g) (hg : w.grownBy w' v'.ownBlock) : PRow base a n P vals v w' := by
  refine ⟨h.r.kept hg ?_, h.l, fun i h1 h2 => (h.p i h1 h2).kept hg ?_⟩
  · cases hb : v'.ownBlock with
    | none => cases hv : v.ownBlock <;> simp
    | some g => exact .inr (hne g hb)
  · cases hb : v'.ownBlock with
    | none => cases hv : vals[i].ownBlock <;> simp
    | some g =>
      obtain ⟨cur, hc⟩ := own_lt h' hb
      refine .inr (own_ne (h.p i h1 h2) fun cur' e => ?_)
      rw [hc] at e; cases e
theorem PRow.push {base : Nat} {a : Str} {n : Nat} {P : List (List Str)} {vals : List Value} {v v' u : Value} {q : List Str} {w w' : World} (h : PRow base a n P vals v w) (hu : w.ownsRow base 9 1 u n ((a :: q).map .string)) (hg : w.grownBy w' v.ownBlock) (hr : w'.ownsRow base 39 1 v' (P.length + 1) (vals ++ [u])) : PRow base a n (P ++ [q]) (vals ++ [u]) v' w' := by
  have key : ∀ {x : Value} {n : Nat} {xs : List Value}, w.ownsRow base 9 1 x n xs → w'.ownsRow base 9 1 x n xs := fun {x n xs} hx => by
    refine hx.kept hg ?_
    cases hb : v.ownBlock with
    | none => cases hv : x.ownBlock <;> simp
    | some g =>
      obtain ⟨cur, hc⟩ := own_lt h.r hb
      refine .inr (own_ne hx fun cur' e => ?_)
      rw [hc] at e; cases e
  refine ⟨by rw [List.length_append, List.length_singleton]; exact hr, by simp [h.l], fun i h1 h2 => ?_⟩
  have hl := h.l
  by_cases hi : i < P.length
  · rw [List.getElem_append_left hi, List.getElem_append_left (by omega)]
    exact key (h.p i (by omega) hi)
  · obtain rfl : i = P.length := by simp at h2; omega
    rw [List.getElem_append_right (by omega), List.getElem_append_right (by omega)]
    simpa using key hu
theorem PRow.nil (base : Nat) (a : Str) (n : Nat) (w : World) : PRow base a n [] [] (.slice none 0 0) w := ⟨World.ownsRow_nil _ _ _ _, rfl, fun i h => absurd h (by simp)⟩
theorem lst_get : ∀ (a : Str) (q : List Str), (a :: q)[q.length]? = some (lst a q)
  | a, [] => rfl
  | a, b :: l => by
    have := lst_get b l
    rw [lst, ← this]; rfl
theorem PRow.at {base : Nat} {a : Str} {n : Nat} {P : List (List Str)} {vals : List Value} {v : Value} {w : World} (h : PRow base a (n + 1) P vals v w) {i : Nat} (hi : i < P.length) (hn : P[i].length = n) :
    ∃ g cap g2 cap2, v = .slice (some ⟨g, 0, none⟩) P.length cap ∧ w.cell? ⟨g, i, none⟩ = some (.slice (some ⟨g2, 0, none⟩) (n + 1) cap2) ∧ w.cell? ⟨g2, n, none⟩ = some (.string (lst a P[i])) ∧ w.ownsRow base 9 1 (.slice (some ⟨g2, 0, none⟩) (n + 1) cap2) (n + 1) ((a :: P[i]).map .string) ∧ vals[i]? = some (.slice (some ⟨g2, 0, none⟩) (n + 1) cap2) := by
  have hl := h.l
  obtain ⟨cur, hcur⟩ : ∃ g, v.ownBlock = some g := by
    rcases h.r.2 with ⟨rfl, hz⟩ | ⟨g, cap, cur, rfl, _⟩
    · omega
    · exact ⟨g, rfl⟩
  have hc := h.r.cells hcur i vals[i] (List.getElem?_eq_getElem (by omega))
  have hp := h.p i (by omega) hi
  rcases h.r.2 with ⟨rfl, hz⟩ | ⟨g, cap, cur', rfl, _⟩
  · omega
  simp only [Value.ownBlock, Option.some.injEq] at hcur
  subst hcur
  rw [Addr.add_lit, Nat.zero_add] at hc
  rcases hp.2 with ⟨h1, h2⟩ | ⟨g2, cap2, cur2, h1, _⟩
  · omega
  have hc2 := hp.cells (g := g2) (by rw [h1]; rfl) n (.string (lst a P[i])) (by
    have := lst_get a P[i]
    rw [hn] at this
    rw [List.getElem?_map, this]; rfl)
  rw [Addr.add_lit, Nat.zero_add] at hc2
  rw [h1] at hc hp
  exact ⟨g, cap, g2, cap2, rfl, hc, hc2, hp, by rw [← h1]; exact List.getElem?_eq_getElem (by omega)⟩
theorem PRow.own {base : Nat} {a : Str} {n : Nat} {P : List (List Str)} {vals : List Value} {v u : Value} {w : World} (h : PRow base a n P vals v w) {i : Nat} (hu : vals[i]? = some u) (hi : i < P.length) : w.ownsRow base 9 1 u n ((a :: P[i]).map .string) := by
  obtain ⟨h1, rfl⟩ := List.getElem?_eq_some_iff.1 hu
  exact h.p i h1 hi
theorem own_mono {w : World} {base base' : Nat} {e : TypeId} {v : Value} {n : Nat} {xs : List Value} (h : w.ownsRow base e 1 v n xs) (hb : base' ≤ base) : w.ownsRow base' e 1 v n xs := by
  refine ⟨h.1, ?_⟩
  rcases h.2 with hn | ⟨g, cap, cur, rfl, hbb, rest⟩
  · exact .inl hn
  · exact .inr ⟨g, cap, cur, rfl, Nat.le_trans hb hbb, rest⟩
theorem PRow.mono {base base' : Nat} {a : Str} {n : Nat} {P : List (List Str)} {vals : List Value} {v : Value} {w : World} (h : PRow base a n P vals v w) (hb : base' ≤ base) : PRow base' a n P vals v w := ⟨own_mono h.r hb, h.l, fun i h1 h2 => own_mono (h.p i h1 h2) hb⟩
structure SSt (w : World) (a : Str) (bs lv n : Nat) (P : List (List Str)) (vals : List Value) (vp : Value) (Q : List (List Str)) (valsQ : List Value) (S : List Str) (wr : World) (vl : Value) : Prop where
  p : PRow w.heap.size a (n + 1) P vals vp wr
  q : PRow lv a (n + 2) Q valsQ vl wr
  s : SetAt wr bs S
  k : Below w.heap.size w wr
  d : ∀ g, vp.ownBlock = some g → g < lv
  b : w.heap.size ≤ bs
  l : w.heap.size ≤ lv
  z : lv ≤ wr.heap.size
theorem SSt.below {w : World} {a : Str} {bs lv n : Nat} {P : List (List Str)} {vals : List Value} {vp : Value} {Q : List (List Str)} {valsQ : List Value} {S : List Str} {wr w' : World} {vl : Value} (h : SSt w a bs lv n P vals vp Q valsQ S wr vl) (hb : Below wr.heap.size wr w') : SSt w a bs lv n P vals vp Q valsQ S w' vl :=
  ⟨h.p.below hb, h.q.below hb, set_below h.s hb, h.k.trans (c_less hb h.k.size), h.d, h.b, h.l, Nat.le_trans h.z hb.size⟩
theorem SSt.mark {w : World} {a : Str} {bs lv n : Nat} {P : List (List Str)} {vals : List Value} {vp : Value} {Q : List (List Str)} {valsQ : List Value} {S S' : List Str} {wr w' : World} {vl : Value} (h : SSt w a bs lv n P vals vp Q valsQ S wr vl) (hs : SetAt w' bs S') (hg : wr.grownBy w' (some bs)) : SSt w a bs lv n P vals vp Q valsQ S' w' vl := by
  have hb := h.b
  exact ⟨h.p.map h.s.isMap hg, h.q.map h.s.isMap hg, hs, h.k.trans ((Keep.of_grown hg).below h.k.size (by simpa using hb)), h.d, h.b, h.l, Nat.le_trans h.z hg.size⟩
theorem SSt.push {w : World} {a : Str} {bs lv n : Nat} {P : List (List Str)} {vals : List Value} {vp : Value} {Q : List (List Str)} {valsQ : List Value} {S : List Str} {wr w' : World} {vl vl' u : Value} {q : List Str} (h : SSt w a bs lv n P vals vp Q valsQ S wr vl) (hu : wr.ownsRow lv 9 1 u (n + 2) ((a :: q).map .string)) (hg : wr.grownBy w' vl.ownBlock) (hr : w'.ownsRow lv 39 1 vl' (Q.length + 1) (valsQ ++ [u])) :
    SSt w a bs lv n P vals vp (Q ++ [q]) (valsQ ++ [u]) S w' vl' := by
  refine ⟨h.p.other h.q.r (fun g hg e => by have := (h.q.r.lt g hg).1; have := h.d g e; omega) hg, h.q.push hu hg hr, ?_, ?_, h.d, h.b, h.l, Nat.le_trans h.z hg.size⟩
  · refine tbl.kept h.s hg ?_
    cases hb : vl.ownBlock with
    | none => simp
    | some g =>
      obtain ⟨cur, hc⟩ := own_lt h.q.r hb
      simp only [ne_eq, Option.some.injEq]
      rintro rfl
      exact not_cells h.s.isMap _ _ _ hc
  · cases hb : vl.ownBlock with
    | none => rw [hb] at hg; exact h.k.trans ((Keep.of_none hg []).below h.k.size (by simp))
    | some g =>
      rw [hb] at hg
      have := (h.q.r.lt g hb).1
      have := h.l
      exact h.k.trans ((Keep.of_grown hg).below h.k.size (by simp; omega))
theorem SSt.level {w : World} {a : Str} {bs n : Nat} {P : List (List Str)} {vals : List Value} {vp : Value} {S : List Str} {wr : World} (h1 : PRow w.heap.size a (n + 1) P vals vp wr) (h2 : SetAt wr bs S) (h3 : Below w.heap.size w wr) (hb : w.heap.size ≤ bs) : SSt w a bs wr.heap.size n P vals vp [] [] S wr (.slice none 0 0) :=
  ⟨h1, PRow.nil _ _ _ _, h2, h3, fun g hg => (h1.r.lt g hg).2, hb, h3.size, Nat.le_refl _⟩
theorem PRow.first (w : World) (a : Str) : PRow w.heap.size a (0 + 1) [[]] [.slice (some ⟨w.heap.size + 1, 0, none⟩) 1 1] (.slice (some ⟨w.heap.size + 2, 0, none⟩) 1 1) (((w.alloc (.map #[] 0)).alloc (.cells #[.string a] 9)).alloc (.cells #[.slice (some ⟨w.heap.size + 1, 0, none⟩) 1 1] 39)) ∧
    SetAt (((w.alloc (.map #[] 0)).alloc (.cells #[.string a] 9)).alloc (.cells #[.slice (some ⟨w.heap.size + 1, 0, none⟩) 1 1] 39)) w.heap.size [] ∧
    Below w.heap.size w (((w.alloc (.map #[] 0)).alloc (.cells #[.string a] 9)).alloc (.cells #[.slice (some ⟨w.heap.size + 1, 0, none⟩) 1 1] 39)) := by
  have e1 := heap_alloc_new (w.alloc (.map #[] 0)) (.cells #[.string a] 9)
  rw [show (w.alloc (.map #[] 0)).heap.size = w.heap.size + 1 by simp] at e1
  have e2 := heap_alloc_new ((w.alloc (.map #[] 0)).alloc (.cells #[.string a] 9)) (.cells #[.slice (some ⟨w.heap.size + 1, 0, none⟩) 1 1] 39)
  rw [show ((w.alloc (.map #[] 0)).alloc (.cells #[.string a] 9)).heap.size = w.heap.size + 2 by simp] at e2
  have e1' := (heap_alloc_old ((w.alloc (.map #[] 0)).alloc (.cells #[.string a] 9)) (.cells #[.slice (some ⟨w.heap.size + 1, 0, none⟩) 1 1] 39) (Array.getElem?_eq_some_iff.1 e1).1).trans e1
  refine ⟨⟨⟨rfl, .inr ⟨w.heap.size + 2, 1, _, rfl, by omega, e2, by simp, by decide, by simp, by simp⟩⟩, rfl, fun i h1 h2 => ?_⟩, ((set_made w _ _ _).alloc _).alloc _, ((((Keep.refl w []).alloc _).alloc _).alloc _).below (Nat.le_refl _) (by simp)⟩
  obtain rfl : i = 0 := by simpa using h1
  exact ⟨rfl, .inr ⟨w.heap.size + 1, 1, _, rfl, by omega, e1', by simp, by decide, by simp, by simp⟩⟩
theorem names_keepT {w w' : World} {e : TypeId} {lo : Nat} {v : Value} {L : List Str} (h : names w e lo v L) (hk : ∀ (g : Nat) (cur : Array Value), w.heap[g]? = some (Obj.cells cur e (0, 0)) → w'.heap[g]? = w.heap[g]?) : names w' e lo v L := by
  obtain ⟨a, cap, rfl, h1, h2, h3⟩ := h
  exact ⟨a, cap, rfl, h1, h2, fun hc => by obtain ⟨g, off, cur, g1, g2, g3, g4⟩ := h3 hc; exact ⟨g, off, cur, g1, g2, (hk g _ g3).trans g3, g4⟩⟩
theorem names_push {w w' : World} {lo base n : Nat} {v vl : Value} {L : List Str} {xs : List Value} (h : names w 9 lo v L) (hq : w.ownsRow base 39 1 vl n xs) (hg : w.grownBy w' vl.ownBlock) : names w' 9 lo v L := by
  refine names_keepT h fun g cur hc => hg.block g (Array.getElem?_eq_some_iff.1 hc).1 fun e => ?_
  obtain ⟨cur', hc'⟩ := own_lt hq e.symm
  rw [hc] at hc'; cases hc'
theorem pth_in {fs : List Fea} : ∀ {a : Str} {q : List Str}, a ∈ namesF fs → Pth (deps fs) a q → lst a q ∈ namesF fs
  | _, [], h, _ => h
  | a, b :: l, _, h => pth_in (a := b) (q := l) (deps_to h.1) h.2
theorem BInv.sub' {fs : List Fea} {a : Str} {k : Nat} {P : List (List Str)} {S : List Str} (ha : a ∈ namesF fs) (h : BInv (deps fs) a k P S) : S.length ≤ (namesF fs).length := nodup_le h.d fun x hx => by
  obtain ⟨q, h1, h2, _⟩ := h.r x hx
  rw [← h2]; exact pth_in ha h1
theorem clone_call {w W : World} {a : Str} {bs lv n : Nat} {P : List (List Str)} {vals : List Value} {vp : Value} {Q : List (List Str)} {valsQ : List Value} {S : List Str} {vl : Value} {g2 cap2 : Nat} {q : List Str} (h : SSt w a bs lv n P vals vp Q valsQ S W vl) (hn : n ≤ 274877906944)
    (hq : W.ownsRow w.heap.size 9 1 (.slice (some ⟨g2, 0, none⟩) (n + 1) cap2) (n + 1) ((a :: q).map .string)) : Calls Tryz.prog 79 #[.slice (some ⟨g2, 0, none⟩) (n + 1) cap2] W fun e W' => ∃ v, e = .returned v ∧ W'.ownsRow W.heap.size 9 1 v (n + 1) ((a :: q).map .string) ∧ Below W.heap.size W W' := by
  have hl := hq.1
  rw [List.length_map, Nat.mul_one] at hl
  refine (Tryz.slices_Clone_string g2 0 (n + 1) cap2 (a :: q) W (by omega) (by omega) (fun j hj => ?_)).mono fun e W' ⟨v, h1, h2, _, h4⟩ => ⟨v, h1, ?_, h4⟩
  · have := hq.cells (g := g2) rfl j (.string ((a :: q).getD j ByteArray.empty)) (by rw [List.getElem?_map, List.getD_eq_getElem?_getD, List.getElem?_eq_getElem hj]; rfl)
    rw [Addr.add_lit] at this
    simpa using this
  · rw [List.take_of_length_le (by omega)] at h2; exact h2
structure L2 (fs : List Fea) (w : World) (a : Str) (bs lv k : Nat) (P : List (List Str)) (vals : List Value) (vp : Value) (S : List Str) (i : Nat) (valsQ : List Value) (t : List (List Str) × List Str) (wr : World) (vl : Value) : Prop where
  s : SSt w a bs lv k P vals vp t.1 valsQ t.2 wr vl
  e : t = extL (deps fs) a (P.take i) ([], S)
  b : t.1.length ≤ t.2.length
  n : ∀ x ∈ t.2, x ∈ namesF fs
  no : ∀ j (hj : j < P.length), j < i → a ∉ deps fs (lst a P[j])
structure L3 (fs : List Fea) (w : World) (a : Str) (bs lv k : Nat) (P : List (List Str)) (vals : List Value) (vp : Value) (p : List Str) (t0 : List (List Str) × List Str) (v40 : Value) (j : Nat) (valsQ : List Value) (t : List (List Str) × List Str) (wr : World) (vl : Value) : Prop where
  s : SSt w a bs lv k P vals vp t.1 valsQ t.2 wr vl
  e : t = ext1 p ((deps fs (lst a p)).take j) t0
  b : t.1.length ≤ t.2.length
  n : ∀ x ∈ t.2, x ∈ namesF fs
  v : names wr 9 0 v40 (deps fs (lst a p))
theorem L3.seen {fs : List Fea} {w : World} {a : Str} {bs lv k : Nat} {P : List (List Str)} {vals : List Value} {vp : Value} {p : List Str} {t0 : List (List Str) × List Str} {v40 : Value} {j : Nat} {valsQ : List Value} {t : List (List Str) × List Str} {wr : World} {vl : Value} (h : L3 fs w a bs lv k P vals vp p t0 v40 j valsQ t wr vl) (hj : j < (deps fs (lst a p)).length) (hin : (deps fs (lst a p))[j] ∈ t.2) : L3 fs w a bs lv k P vals vp p t0 v40 (j + 1) valsQ t wr vl := by
  refine ⟨h.s, ?_, h.b, h.n, h.v⟩
  rw [List.take_succ_eq_append_getElem hj, ext1_snoc, ← h.e, if_pos hin]
theorem L3.len {fs : List Fea} {w : World} {a : Str} {bs lv k : Nat} {P : List (List Str)} {vals : List Value} {vp : Value} {p : List Str} {t0 : List (List Str) × List Str} {v40 : Value} {j : Nat} {valsQ : List Value} {t : List (List Str) × List Str} {wr : World} {vl : Value} (h : L3 fs w a bs lv k P vals vp p t0 v40 j valsQ t wr vl) : t.1.length ≤ (namesF fs).length ∧ t.2.length ≤ (namesF fs).length := by
  have h1 := nodup_le h.s.s.1 h.n
  have h2 := h.b
  omega
theorem L3.push {fs : List Fea} {w : World} {a : Str} {bs lv k : Nat} {P : List (List Str)} {vals : List Value} {vp : Value} {p : List Str} {t0 : List (List Str) × List Str} {v40 : Value} {j : Nat} {valsQ : List Value} {t : List (List Str) × List Str} {wr w1 w4 : World} {vl vl' u : Value} (h : L3 fs w a bs lv k P vals vp p t0 v40 j valsQ t wr vl) (hj : j < (deps fs (lst a p)).length) (hin : (deps fs (lst a p))[j] ∉ t.2)
    (hs : SSt w a bs lv k P vals vp t.1 valsQ (ins t.2 (deps fs (lst a p))[j]) w1 vl) (hv : names w1 9 0 v40 (deps fs (lst a p))) (hu : w1.ownsRow lv 9 1 u (k + 2) ((a :: (p ++ [(deps fs (lst a p))[j]])).map .string)) (hg : w1.grownBy w4 vl.ownBlock) (hr : w4.ownsRow lv 39 1 vl' (t.1.length + 1) (valsQ ++ [u])) :
    L3 fs w a bs lv k P vals vp p t0 v40 (j + 1) (valsQ ++ [u]) (t.1 ++ [p ++ [(deps fs (lst a p))[j]]], t.2 ++ [(deps fs (lst a p))[j]]) w4 vl' := by
  have e : ins t.2 (deps fs (lst a p))[j] = t.2 ++ [(deps fs (lst a p))[j]] := by unfold ins; rw [if_neg hin]
  rw [e] at hs
  refine ⟨hs.push hu hg hr, ?_, ?_, fun x hx => ?_, names_push hv hs.q.r hg⟩
  · rw [List.take_succ_eq_append_getElem hj, ext1_snoc, ← h.e, if_neg hin]
  · have := h.b; simp only [List.length_append, List.length_singleton]; omega
  · rcases List.mem_append.1 hx with hx | hx
    · exact h.n x hx
    · rw [List.mem_singleton] at hx; subst hx; exact deps_to (List.getElem_mem hj)
theorem L3.done {fs : List Fea} {w : World} {a : Str} {bs lv k : Nat} {P : List (List Str)} {vals : List Value} {vp : Value} {S : List Str} {i : Nat} {valsQ0 : List Value} {t0 : List (List Str) × List Str} {wr0 : World} {vl0 : Value} {v40 : Value} {j : Nat} {valsQ : List Value} {t : List (List Str) × List Str} {wr : World} {vl : Value} (hi : i < P.length) (h0 : L2 fs w a bs lv k P vals vp S i valsQ0 t0 wr0 vl0)
    (h : L3 fs w a bs lv k P vals vp P[i] t0 v40 j valsQ t wr vl) (hj : (deps fs (lst a P[i])).length ≤ j) (hno : a ∉ deps fs (lst a P[i])) : L2 fs w a bs lv k P vals vp S (i + 1) valsQ t wr vl := by
  refine ⟨h.s, ?_, h.b, h.n, fun x hx hxi => ?_⟩
  · rw [h.e, List.take_of_length_le hj, List.take_succ_eq_append_getElem hi, extL_snoc, ← h0.e]
  · rcases Nat.lt_or_eq_of_le (Nat.le_of_lt_succ hxi) with h1 | rfl
    · exact h0.no x hx h1
    · exact hno
theorem own_one {w : World} {base : Nat} {e : TypeId} {v : Value} {n : Nat} {xs : List Value} (h : w.ownsRow base e 1 v n xs) : ∀ u ∈ [v], u.oneCell' = true := fun u hu => by
  rw [List.mem_singleton] at hu; subst hu
  rcases h.2 with ⟨rfl, _⟩ | ⟨g, cap, cur, rfl, _⟩ <;> rfl
theorem own_shape {w : World} {base : Nat} {e : TypeId} {v : Value} {n : Nat} {xs : List Value} (h : w.ownsRow base e 1 v n xs) (hn : 0 < n) : ∃ g cap, v = .slice (some ⟨g, 0, none⟩) n cap := by
  rcases h.2 with ⟨_, h1⟩ | ⟨g, cap, cur, h1, _⟩
  · omega
  · exact ⟨g, cap, h1⟩
theorem str_one (s : Str) : ∀ u ∈ [Value.string s], u.oneCell' = true := fun u hu => by rw [List.mem_singleton] at hu; subst hu; rfl
theorem cell1 (w : World) (v : Value) (t : TypeId) : ∀ j u, [v][j]? = some u → (w.alloc (.cells #[v] t)).cell? ((⟨w.heap.size, 0, none⟩ : Addr).add j) = some u := fun j u hj => by
  match j, hj with
  | 0, hj =>
    simp only [List.getElem?_cons_zero, Option.some.injEq] at hj
    subst hj
    rw [Addr.add_lit, cell_at (heap_alloc_new _ _)]; rfl
theorem grow_below {w w' : World} {base : Nat} {e : TypeId} {v : Value} {n : Nat} {xs : List Value} (h : w.ownsRow base e 1 v n xs) (hg : w.grownBy w' v.ownBlock) (hb : base ≤ w.heap.size) : Below base w w' :=
  ⟨hg.os, hg.tape, hg.output, hg.size, fun k hk => hg.block k (by omega) fun e' => by have := (h.lt k e'.symm).1; omega⟩
theorem L2.start {fs : List Fea} {w : World} {a : Str} {k : Nat} {P : List (List Str)} {vals : List Value} {vp : Value} {S : List Str} {wr : World} (ha : a ∈ namesF fs) (h1 : PRow w.heap.size a (k + 1) P vals vp wr) (h2 : SetAt wr w.heap.size S) (h3 : Below w.heap.size w wr) (h4 : BInv (deps fs) a k P S) : L2 fs w a w.heap.size wr.heap.size k P vals vp S 0 [] ([], S) wr (.slice none 0 0) :=
  ⟨SSt.level h1 h2 h3 (Nat.le_refl _), rfl, Nat.zero_le _, fun x hx => by obtain ⟨q, h5, h6, _⟩ := h4.r x hx; rw [← h6]; exact pth_in ha h5, fun j _ h => absurd h (by omega)⟩
theorem L3.start {fs : List Fea} {w : World} {a : Str} {bs lv k : Nat} {P : List (List Str)} {vals : List Value} {vp : Value} {S : List Str} {i : Nat} {valsQ : List Value} {t : List (List Str) × List Str} {wr w5 : World} {vl : Value} {p : List Str} {v40 : Value} {l0 : Nat} (h : L2 fs w a bs lv k P vals vp S i valsQ t wr vl) (hb : Below wr.heap.size wr w5) (hv : names w5 9 l0 v40 (deps fs (lst a p))) :
    L3 fs w a bs lv k P vals vp p t v40 0 valsQ t w5 vl := ⟨h.s.below hb, rfl, h.b, h.n, hv.mono (Nat.zero_le _)⟩
theorem step_room {w : World} {a : Str} {bs lv n : Nat} {P : List (List Str)} {vals : List Value} {vp : Value} {Q : List (List Str)} {valsQ : List Value} {S : List Str} {w1 w2 w3 : World} {vl v1 : Value} {m : Nat} {xs : List Value} (s1 : SSt w a bs lv n P vals vp Q valsQ S w1 vl) (hc1 : w2.ownsRow w1.heap.size 9 1 v1 m xs) (hb2 : Below w1.heap.size w1 w2) {o1 : Obj} (hg3 : (w2.alloc o1).grownBy w3 v1.ownBlock) (o2 : Obj) :
    (w3.alloc o2).ownsRow lv 39 1 vl Q.length valsQ ∧ lv ≤ (w3.alloc o2).heap.size := by
  have l2 := hb2.size
  have b3 : Below w1.heap.size w2 (w2.alloc o1) := ⟨rfl, rfl, rfl, by simp, fun k hk => heap_alloc_old w2 o1 (by omega)⟩
  have b4 := grow_below (hc1.alloc o1) hg3 (by simp; omega)
  have l4 := b4.size
  have b5 : Below w1.heap.size w3 (w3.alloc o2) := ⟨rfl, rfl, rfl, by simp, fun k hk => heap_alloc_old w3 o2 (by simp at l4; omega)⟩
  have s5 := s1.below (((hb2.trans b3).trans b4).trans b5)
  exact ⟨s5.q.r, s5.z⟩
theorem L3.step {fs : List Fea} {w : World} {a : Str} {bs lv k : Nat} {P : List (List Str)} {vals : List Value} {vp : Value} {p : List Str} {t0 : List (List Str) × List Str} {v40 : Value} {j : Nat} {valsQ : List Value} {t : List (List Str) × List Str} {wr w1 w2 w3 w4 : World} {vl vl' v1 u : Value} (h : L3 fs w a bs lv k P vals vp p t0 v40 j valsQ t wr vl) (hj : j < (deps fs (lst a p)).length) (hin : (deps fs (lst a p))[j] ∉ t.2) {o1 o2 : Obj}
    (hs : SetAt w1 bs (ins t.2 (deps fs (lst a p))[j])) (hg1 : wr.grownBy w1 (some bs)) (hc1 : w2.ownsRow w1.heap.size 9 1 v1 (k + 1) ((a :: p).map .string)) (hb2 : Below w1.heap.size w1 w2)
    (hr3 : w3.ownsRow w1.heap.size 9 1 u (k + 1 + 1) ((a :: p).map .string ++ [.string (deps fs (lst a p))[j]])) (hg3 : (w2.alloc o1).grownBy w3 v1.ownBlock)
    (hr4 : w4.ownsRow lv 39 1 vl' (t.1.length + 1) (valsQ ++ [u])) (hg4 : (w3.alloc o2).grownBy w4 vl.ownBlock) :
    L3 fs w a bs lv k P vals vp p t0 v40 (j + 1) (valsQ ++ [u]) (t.1 ++ [p ++ [(deps fs (lst a p))[j]]], t.2 ++ [(deps fs (lst a p))[j]]) w4 vl' := by
  have s1 := h.s.mark hs hg1
  have n1 := h.v.grown hg1 (not_cells h.s.s.isMap)
  have l2 := hb2.size
  have b3 : Below w1.heap.size w2 (w2.alloc o1) := ⟨rfl, rfl, rfl, by simp, fun k hk => heap_alloc_old w2 o1 (by omega)⟩
  have b4 := grow_below (hc1.alloc o1) hg3 (by simp; omega)
  have l4 := b4.size
  have b5 : Below w1.heap.size w3 (w3.alloc o2) := ⟨rfl, rfl, rfl, by simp, fun k hk => heap_alloc_old w3 o2 (by simp at l4; omega)⟩
  have bb := ((hb2.trans b3).trans b4).trans b5
  refine h.push hj hin (s1.below bb) (names_below n1 bb) ?_ hg4 hr4
  have := own_mono (hr3.alloc o2) s1.z
  have e : (a :: (p ++ [(deps fs (lst a p))[j]])).map Value.string = (a :: p).map .string ++ [.string (deps fs (lst a p))[j]] := by simp
  rw [e]; exact this
end Go.Proofs.YtekngilbecjkhaaGreatDoor
