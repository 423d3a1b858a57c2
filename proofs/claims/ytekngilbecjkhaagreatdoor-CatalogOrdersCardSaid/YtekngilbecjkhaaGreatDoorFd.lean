/- The plain law of CatalogOrders. -/
import Derived.Test.YtekngilbecjkhaaGreatDoorFc
set_option linter.unusedSimpArgs false
set_option linter.unusedVariables false
set_option maxRecDepth 100000
set_option maxHeartbeats 4000000
namespace Go.Proofs.YtekngilbecjkhaaGreatDoor
open Go.Sx Go.Proofs Go.Tb
section
variable {fs : List Fea}
/-- What is used from a name of the order on, and in force, stands ahead of it. -/
theorem order_reach {l : List Str} (h : OInv (deps fs) (namesF fs) l) {i : Nat} (hi : i < l.length) {f : Fea} (hf : findF fs l[i] = some f) {m : Str} (hr : Reach fs f.body.feats m) (hm : inF fs m = true) : m ∈ l.take i := by
  induction hr with
  | base h1 => exact h.b i hi _ (deps_mem.2 ⟨f, hf, h1, hm⟩)
  | step h1 h2 h3 ih =>
    rename_i n m' f'
    have hn : n ∈ l.take i := ih (by unfold inF; rw [h2]; rfl)
    obtain ⟨j, hj, e⟩ := List.getElem_of_mem hn
    have hji : j < i := by simp at hj; omega
    have hjl : j < l.length := by omega
    rw [List.getElem_take] at e
    subst e
    have := h.b j hjl _ (deps_mem.2 ⟨f', h2, h3, hm⟩)
    exact (List.take_subset_take_left _ (by omega)) this
theorem order_own {l : List Str} (h : OInv (deps fs) (namesF fs) l) {i : Nat} (hi : i < l.length) : l[i] ∉ l.take i := fun hm => by
  obtain ⟨j, hj, e⟩ := List.getElem_of_mem hm
  have hji : j < i := by simp at hj; omega
  rw [List.getElem_take] at e
  have := (List.pairwise_iff_getElem.1 h.d) j i (by omega) hi hji
  exact this e
theorem order_in {l : List Str} (h : OInv (deps fs) (namesF fs) l) {i : Nat} (hi : i < l.length) : ∃ f, findF fs l[i] = some f :=
  Option.isSome_iff_exists.1 (namesF_mem.1 (h.s _ (List.getElem_mem hi)))
/-- From names that have no end: a cycle. -/
theorem cyc_of {g : Str → List Str} {S : Str → Prop} {N : List Str} (hN : ∀ s, S s → s ∈ N) (hS : ∀ s, S s → ∃ t ∈ g s, S t) {a : Str} (ha : S a) : ∃ b q, S b ∧ Cyc g b q := by
  have key : ∀ k, ∃ q : List Str, q.length = k ∧ Pth g a q ∧ (∀ s ∈ a :: q, S s) := by
    intro k
    induction k with
    | zero => exact ⟨[], rfl, trivial, fun s hs => by simp at hs; subst hs; exact ha⟩
    | succ k ih =>
      obtain ⟨q, h1, h2, h3⟩ := ih
      have hl : S (lst a q) := by
        have : ∀ (q : List Str) (a : Str), lst a q ∈ a :: q := fun q => by
          induction q with
          | nil => intro a; simp [lst]
          | cons b q ih => intro a; rw [lst]; exact List.mem_cons_of_mem _ (ih b)
        exact h3 _ (this q a)
      obtain ⟨t, ht, hst⟩ := hS _ hl
      exact ⟨q ++ [t], by simp [h1], h2.snoc ht, fun s hs => by
        rw [← List.cons_append, List.mem_append, List.mem_singleton] at hs
        rcases hs with hs | rfl
        · exact h3 s hs
        · exact hst⟩
  obtain ⟨q, h1, h2, h3⟩ := key N.length
  have hnd : ¬ (a :: q).Nodup := fun hd => by
    have := nodup_le hd fun s hs => hN s (h3 s hs)
    simp only [List.length_cons] at this; omega
  have split : ∀ (q : List Str) (a : Str), Pth g a q → ¬ (a :: q).Nodup → ∃ b y, b ∈ a :: q ∧ Cyc g b y := fun q => by
    induction q with
    | nil => intro a _ h; exact absurd (by simp) h
    | cons b q ih =>
      intro a hp hnd
      by_cases hm : a ∈ b :: q
      · obtain ⟨x, y, e⟩ := List.append_of_mem hm
        refine ⟨a, x, by simp, ?_, ?_⟩
        · rw [e] at hp; exact hp.left
        · rw [e] at hp; exact (hp.right (l := x)).1
      · have := ih b hp.2 (fun hd => hnd (List.nodup_cons.2 ⟨hm, hd⟩))
        obtain ⟨c, y, h1, h2⟩ := this
        exact ⟨c, y, List.mem_cons_of_mem _ h1, h2⟩
  obtain ⟨b, y, hb, hc⟩ := split q a h2 hnd
  exact ⟨b, y, h3 b hb, hc⟩
theorem order_all_of {l : List Str} (h : OInv (deps fs) (namesF fs) l) (hn : ordNext (deps fs) (namesF fs) l = none) (hc : ∀ a ∈ namesF fs, ∀ q, ¬ Cyc (deps fs) a q) : l.length = (namesF fs).length := by
  refine Nat.le_antisymm h.len (nodup_le (srt_nodup (namesF_srt fs)) fun a ha => ?_)
  by_cases hal : a ∈ l
  · exact hal
  · exfalso
    obtain ⟨b, q, hb, hq⟩ := cyc_of (g := deps fs) (S := fun s => s ∈ namesF fs ∧ s ∉ l) (N := namesF fs) (fun s hs => hs.1) (fun s hs => by
      have h1 := List.find?_eq_none.1 hn s hs.1
      rw [ready_iff] at h1
      have h2 : ¬ ∀ m ∈ deps fs s, m ∈ l := fun h3 => h1 ⟨hs.2, h3⟩
      obtain ⟨m, hm⟩ := Classical.not_forall.1 h2
      obtain ⟨hm1, hm2⟩ := Classical.not_imp.1 hm
      exact ⟨m, hm1, deps_to hm1, hm2⟩) ⟨ha, hal⟩
    exact hc b hb.1 q hq
theorem order_all_no {l : List Str} (h : OInv (deps fs) (namesF fs) l) (hl : l.length = (namesF fs).length) (a : Str) (q : List Str) : ¬ Cyc (deps fs) a q := fun hc => by
  have hmem : ∀ s ∈ namesF fs, s ∈ l := nodup_sub h.d h.s (by omega)
  have hr : ∀ a b, b ∈ deps fs a → l.findIdx (fun x => decide (x = b)) < l.findIdx (fun x => decide (x = a)) := fun a b hb => by
    have ha := hmem a (deps_of hb)
    have hi : l.findIdx (fun x => decide (x = a)) < l.length := List.findIdx_lt_length_of_exists ⟨a, ha, by simp⟩
    have e0 : l[l.findIdx (fun x => decide (x = a))] = a := of_decide_eq_true (List.findIdx_getElem (w := hi))
    have hb2 : b ∈ l.take (l.findIdx (fun x => decide (x = a))) := h.b _ hi b (by rw [e0]; exact hb)
    obtain ⟨j, hj, e⟩ := List.getElem_of_mem hb2
    rw [List.getElem_take] at e
    have hjl : j < l.findIdx (fun x => decide (x = a)) := by simp at hj; omega
    rcases Nat.lt_or_ge j (l.findIdx (fun x => decide (x = b))) with h1 | h1
    · have := List.not_of_lt_findIdx h1
      simp [e] at this
    · omega
  have h1 := rank_cyc (r := fun a => l.findIdx (fun x => decide (x = a))) hr q a hc.1
  have h2 := hr _ _ hc.2
  omega
/-- All are there exactly if there is no cycle. -/
theorem order_all (fs : List Fea) (hcy : IsCyc (deps fs) (namesF fs) (cycL (deps fs) (namesF fs))) : (orderL (deps fs) (namesF fs)).length = (namesF fs).length ↔ cycL (deps fs) (namesF fs) = [] := by
  obtain ⟨h, hn⟩ := orderL_ok (deps fs) (namesF fs)
  constructor
  · intro hl
    rcases hcy with ⟨e, _⟩ | ⟨a, q, e, ha, hb, _⟩
    · exact e
    · exact absurd hb.c (order_all_no h hl a q)
  · intro e
    rcases hcy with ⟨_, h0⟩ | ⟨a, q, e2, _⟩
    · exact order_all_of h hn h0
    · rw [e] at e2; cases e2
end
end Go.Proofs.YtekngilbecjkhaaGreatDoor

/- There is a best cycle. -/
set_option linter.unusedSimpArgs false
set_option linter.unusedVariables false
set_option maxRecDepth 100000
set_option maxHeartbeats 4000000
namespace Go.Proofs.YtekngilbecjkhaaGreatDoor
open Go.Sx Go.Proofs Go.Tb
theorem least_nat {p : Nat → Prop} : ∀ n, p n → ∃ m, p m ∧ ∀ k, p k → m ≤ k := by
  intro n
  induction n using Nat.strongRecOn with
  | _ n ih =>
    intro h
    by_cases hk : ∃ k, k < n ∧ p k
    · obtain ⟨k, h1, h2⟩ := hk; exact ih k h1 h2
    · exact ⟨n, h, fun k hp => by
        rcases Nat.lt_or_ge k n with h1 | h1
        · exact absurd ⟨k, h1, hp⟩ hk
        · exact h1⟩
open Classical in
theorem dst_ex (g : Str → List Str) (b : Str) : ∃ d, Dst g b d := by
  refine ⟨fun x => if h : ∃ k, Stp g k x b then (least_nat (p := fun k => Stp g k x b) h.choose h.choose_spec).choose else 1000, fun x hx => ?_, fun k x hk => ?_⟩
  · by_cases h : ∃ k, Stp g k x b
    · simp only [dif_pos h]; exact (least_nat (p := fun k => Stp g k x b) h.choose h.choose_spec).choose_spec.1
    · simp only [dif_neg h] at hx; omega
  · have h : ∃ k, Stp g k x b := ⟨k, hk⟩
    simp only [dif_pos h]; exact (least_nat (p := fun k => Stp g k x b) h.choose h.choose_spec).choose_spec.2 k hk
theorem gre_ex {g : Str → List Str} {b : Str} {d : Str → Nat} (hd : Dst g b d) : ∀ (n : Nat) (a : Str), d a = n + 1 → d a < 1000 → ∃ l, Gre g d n a l
  | 0, a, _, _ => ⟨[], .nil⟩
  | n + 1, a, ha, h1 => by
    obtain ⟨c, hc⟩ := hd.next ha h1
    have hdc : d c = n + 1 := by simpa using List.find?_some hc
    obtain ⟨l, hl⟩ := gre_ex hd n c hdc (by omega)
    exact ⟨c :: l, .cons hc hl⟩
/-- A shortest cycle from a name goes through no name twice. -/
theorem short_nodup {g : Str → List Str} {a : Str} {q : List Str} (hc : Cyc g a q) (hs : ∀ m, Cyc g a m → q.length ≤ m.length) : (a :: q).Nodup := by
  refine List.nodup_cons.2 ⟨fun hm => ?_, ?_⟩
  · obtain ⟨x, y, e⟩ := List.append_of_mem hm
    have hp := hc.1
    rw [e] at hp
    have := hs x ⟨hp.left, (hp.right (l := x)).1⟩
    rw [e, List.length_append, List.length_cons] at this; omega
  · by_cases hd : q.Nodup
    · exact hd
    · exfalso
      have split : ∀ q : List Str, ¬ q.Nodup → ∃ x c y z, q = x ++ c :: y ++ c :: z := fun q => by
        induction q with
        | nil => intro h; exact absurd .nil h
        | cons b q ih =>
          intro h
          by_cases hb : b ∈ q
          · obtain ⟨x, y, rfl⟩ := List.append_of_mem hb
            exact ⟨[], b, x, y, by simp⟩
          · obtain ⟨x, c, y, z, e⟩ := ih fun hq => h (List.nodup_cons.2 ⟨hb, hq⟩)
            exact ⟨b :: x, c, y, z, by rw [e]; simp⟩
      obtain ⟨x, c, y, z, e⟩ := split q hd
      have hp := hc.1
      have hl := hc.2
      rw [e] at hp hl
      have h1 : Pth g a x := by rw [List.append_assoc] at hp; exact hp.left
      have h2 : c ∈ g (lst a x) := by rw [List.append_assoc] at hp; exact (hp.right (l := x)).1
      have h3 : Pth g c z := (hp.right (l := x ++ c :: y)).2
      have h4 : lst a (x ++ c :: y ++ c :: z) = lst c z := by rw [lst_app]; rfl
      rw [h4] at hl
      have h5 : Cyc g a (x ++ c :: z) := ⟨Pth.app h1 ⟨h2, h3⟩, by rw [lst_app]; exact hl⟩
      have := hs _ h5
      rw [e] at this
      simp at this
      omega
theorem best_ex {g : Str → List Str} (hg : ∀ n, Srt (g n)) {N : List Str} (hN : ∀ x y, y ∈ g x → y ∈ N) (hl : N.length < 999) {a : Str} {q : List Str} (hc : Cyc g a q) (hs : ∀ m, Cyc g a m → q.length ≤ m.length) : ∃ l, Best g a l ∧ l.length = q.length := by
  obtain ⟨d, hd⟩ := dst_ex g a
  have hq : q.length < 999 := by
    have hnd := (List.nodup_cons.1 (short_nodup hc hs)).2
    have hsub : ∀ (q : List Str) (a : Str), Pth g a q → ∀ s ∈ q, s ∈ N := fun q => by
      induction q with
      | nil => intro a _ s h; cases h
      | cons b q ih =>
        intro a hp s h
        rcases List.mem_cons.1 h with rfl | h
        · exact hN _ _ hp.1
        · exact ih b hp.2 s h
    have := nodup_le hnd (hsub q a hc.1)
    omega
  have h1 : d a ≤ q.length + 1 := hd.l _ _ (hc.1.stp hc.2)
  have h2 := hd.r a (by omega)
  have h3 := h2.pos
  obtain ⟨l, hgr⟩ := gre_ex hd (d a - 1) a (by omega) (by omega)
  have hb := Gre.isBest hg hd hgr (by omega) (by omega)
  exact ⟨l, hb, Nat.le_antisymm (hb.s q hc) (hs l hb.c)⟩
/-- The cycle of a catalog: what holds of it. -/
theorem cycL_is (g : Str → List Str) (hg : ∀ n, Srt (g n)) {N : List Str} (hNs : Srt N) (hN : ∀ x y, y ∈ g x → y ∈ N) (hl : N.length < 999) : IsCyc g N (cycL g N) := by
  have ex : ∃ l, IsCyc g N l := by
    by_cases h0 : ∃ a ∈ N, ∃ q, Cyc g a q
    · obtain ⟨a1, ha1, q1, hq1⟩ := h0
      obtain ⟨k, ⟨a0, ha0, q0, hq0, hk0⟩, hmin⟩ := least_nat (p := fun k => ∃ a ∈ N, ∃ q, Cyc g a q ∧ q.length = k) q1.length ⟨a1, ha1, q1, hq1, rfl⟩
      classical
      have hsome : (N.find? fun a => decide (∃ q, Cyc g a q ∧ q.length = k)).isSome := by
        rw [List.find?_isSome]; exact ⟨a0, ha0, by simpa using ⟨q0, hq0, hk0⟩⟩
      obtain ⟨a, ha⟩ := Option.isSome_iff_exists.1 hsome
      have haN := List.mem_of_find?_eq_some ha
      have hp := List.find?_some ha
      simp only [decide_eq_true_eq] at hp
      obtain ⟨q, hq, hqk⟩ := hp
      obtain ⟨l, hb, hbl⟩ := best_ex hg hN hl hq (fun m hm => by rw [hqk]; exact hmin _ ⟨a, haN, m, hm, rfl⟩)
      refine ⟨a :: l, .inr ⟨a, l, rfl, haN, hb, fun b hbN hlt m hm => ?_, fun b hbN m hm => by rw [hbl, hqk]; exact hmin _ ⟨b, hbN, m, hm, rfl⟩⟩⟩
      have h1 := hmin _ ⟨b, hbN, m, hm, rfl⟩
      rcases Nat.eq_or_lt_of_le h1 with h2 | h2
      · exfalso
        rcases fst_least hNs ha b hbN (by simpa using ⟨m, hm, h2.symm⟩) with h3 | h3
        · rw [h3, sLt_irrefl] at hlt; cases hlt
        · rw [sLt_asymm h3] at hlt; cases hlt
      · omega
    · exact ⟨[], .inl ⟨rfl, fun a ha q hq => h0 ⟨a, ha, q, hq⟩⟩⟩
  obtain ⟨l, hl⟩ := ex
  rw [cycL_eq hl]; exact hl
theorem Cyc.rot {g : Str → List Str} {a b : Str} {x y : List Str} (h : Cyc g a (x ++ b :: y)) : Cyc g b (y ++ a :: x) := by
  have h1 := h.1.left
  have h2 := h.1.right (l := x)
  have h3 := h.2
  rw [lst_app] at h3
  exact ⟨Pth.app h2.2 ⟨h3, h1⟩, by rw [lst_app]; exact h2.1⟩
/-- Each name of the cycle uses the next one; the first is the least. -/
theorem cyc_facts {g : Str → List Str} {N L : List Str} (hN : ∀ x y, y ∈ g x → y ∈ N) (h : IsCyc g N L) {i : Nat} (hi : i < L.length) : L[(i + 1) % L.length]'(Nat.mod_lt _ (by omega)) ∈ g L[i] ∧ (0 < i → sLt (L[0]'(by omega)) L[i] = true) := by
  rcases h with ⟨rfl, _⟩ | ⟨a, q, rfl, haN, hb, hlt, hmin⟩
  · exact absurd hi (by simp)
  · have hnd := short_nodup hb.c hb.s
    have key : ∀ (q : List Str) (a : Str), Pth g a q → ∀ i (hi : i + 1 < (a :: q).length), (a :: q)[i + 1] ∈ g ((a :: q)[i]'(by omega)) := fun q => by
      induction q with
      | nil => intro a _ i hi; simp at hi
      | cons b q ih =>
        intro a hp i hi
        cases i with
        | zero => exact hp.1
        | succ i => exact ih b hp.2 i (by simpa using hi)
    have hlast : ∀ (q : List Str) (a : Str), (a :: q)[q.length]'(by simp) = lst a q := fun q => by
      induction q with
      | nil => intro a; rfl
      | cons b q ih => intro a; exact ih b
    refine ⟨?_, fun h0 => ?_⟩
    · by_cases hl : i + 1 < (a :: q).length
      · have e : (i + 1) % (a :: q).length = i + 1 := Nat.mod_eq_of_lt hl
        simp only [e]
        exact key q a hb.c.1 i hl
      · have e1 : i = q.length := by simp at hi hl; omega
        subst e1
        have e : (q.length + 1) % (a :: q).length = 0 := by simp
        simp only [e, hlast, List.getElem_cons_zero]
        exact hb.c.2
    · cases i with
      | zero => omega
      | succ j =>
        simp only [List.getElem_cons_succ, List.getElem_cons_zero]
        have hj : j < q.length := by simpa using hi
        have e : q = q.take j ++ q[j] :: q.drop (j + 1) := by rw [List.getElem_cons_drop, List.take_append_drop]
        have hc := hb.c
        rw [e] at hc
        have hr := hc.rot
        have hne : q[j] ≠ a := fun e2 => (List.nodup_cons.1 hnd).1 (e2 ▸ List.getElem_mem hj)
        have hlen : (q.drop (j + 1) ++ a :: q.take j).length = q.length := by simp; omega
        cases h1 : sLt a q[j] with
        | true => rfl
        | false =>
          exfalso
          cases h2 : sLt q[j] a with
          | false => exact hne (sLt_tri h2 h1)
          | true =>
            have := hlt _ (hN _ _ hr.2) h2 _ hr
            omega
end Go.Proofs.YtekngilbecjkhaaGreatDoor
