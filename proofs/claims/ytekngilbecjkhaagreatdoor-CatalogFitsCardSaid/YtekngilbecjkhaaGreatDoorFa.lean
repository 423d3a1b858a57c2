/- Same units, types, expressions, tables, features: of one and the same. -/
import Derived.Test.YtekngilbecjkhaaGreatDoorEh
set_option linter.unusedSimpArgs false
set_option linter.unusedVariables false
set_option maxRecDepth 100000
set_option maxHeartbeats 4000000
namespace Go.Proofs.YtekngilbecjkhaaGreatDoor
open Go.Sx Go.Proofs Go.Tb
theorem sameUnit_t (u : List Fac) : Pure Tryz.prog 59 [.sl false 2 (u.map Fac.cells), .sl false 2 (u.map Fac.cells)] (.v (.bool true)) := by
  refine Pure.runk (fun _ => 0) Tryz.func59 comp59 era59 (Nat.le_of_ble_eq_true rfl) fun σ => ?_
  repeat' (first | exact .nil | refine .k0 ?_ | refine .k1 ?_ | refine .k2 ?_ | refine .k6 ?_ | refine .k7 ?_ | refine .k9 ?_ | (refine .cd ?_ ?_ <;> (intro hc; skip)) | refine .r1 ?_ ?_ | (refine .m2 ?_ ?_; intro hlen) | fail)
  try any_goals ((intro hob; fail))
  all_goals (try simp only [BL] at *)
  all_goals first | (exfalso; exact hc trivial) | skip
  refine WK_loop (fun n rg σ' => ∃ i : Nat, i ≤ u.length ∧ n = u.length - i ∧ σ' = σ ∧ rg = [(0, .sl false 2 (u.map Fac.cells)), (1, .sl false 2 (u.map Fac.cells)), (5, iv i)]) u.length rfl ⟨_, _, by repeat' first | exact .refl _ | fail, by repeat' first | exact .refl _ | fail, 0, Nat.zero_le _, rfl, rfl, rfl⟩ ?_
  rintro n _ _ ⟨i, hi, hn, rfl, rfl⟩
  repeat' (first | exact .nil | refine .k0 ?_ | refine .k1 ?_ | refine .k2 ?_ | refine .k5 ?_ | refine .k6 ?_ | refine .k7 ?_ | refine .k8 ?_ | refine .k9 ?_ | (refine .cd ?_ ?_ <;> (intro hc; skip)) | refine .r1 ?_ ?_ | (refine .m2 ?_ ?_; intro hlen) | refine .t1 ?_ ?_ ?_ | fail)
  try any_goals ((intro hob; first | (simp_all; done) | fail))
  all_goals (try simp only [BL] at *)
  all_goals first | (exfalso; simp at hc; done) | (refine ⟨u.length - (i + 1), by omega, _, _, by repeat' first | exact .refl _ | fail, by repeat' first | exact .refl _ | fail, i + 1, by omega, rfl, rfl, by rw [up1 (n := u.length) (by omega) (by assumption)]⟩) | (show Sx.Fin _ _ _ _; (refine Sx.Fin.wk (by repeat' first | exact .refl _ | fail) ?_; repeat' first | exact .refl _ | fail); done) | fail
theorem sameType_t (t : Ty) : Pure Tryz.prog 28 [.agg t.cells, .agg t.cells] (.v (.bool true)) := by
  refine Pure.runk (fun _ => 0) Tryz.func28 comp28 era28 (Nat.le_of_ble_eq_true rfl) fun σ => ?_
  repeat' (first | exact .nil | refine .k0 ?_ | refine .k1 ?_ | refine .k2 ?_ | refine .k4 ?_ | refine .k7 ?_ | refine .r1 ?_ ?_ | (refine .m1 ?_ ?_; intro b) | refine .an rfl (by intro hob; exact sameUnit_t _) ?_ ?_ | fail)
  try any_goals ((intro hob; fail))
  all_goals (try simp only [BL] at *)
  show Sx.Fin _ (AV.v (Value.bool true)) (AV.v (Value.bool true)) _
  (refine Sx.Fin.wk (by repeat' first | exact .refl _ | refine .cons ?_) ?_; repeat' first | exact .refl _ | fail)
end Go.Proofs.YtekngilbecjkhaaGreatDoor

/- CatalogFinds. -/
set_option linter.unusedSimpArgs false
set_option linter.unusedVariables false
set_option maxRecDepth 100000
set_option maxHeartbeats 4000000
namespace Go.Sx
end Go.Sx
namespace Go.Proofs.YtekngilbecjkhaaGreatDoor
open Go.Sx Go.Proofs Go.Tb
def zta : Tab := ⟨s0, s0, [], 0⟩
def findT (ts : List Tab) (n : Str) : Option Tab := ts.find? fun t => decide (t.name = n)
def gotT (o : Option Tab) : AV := .tup [.agg (o.getD zta).cells, .v (.bool o.isSome)]
theorem findT_no {ts : List Tab} {n : Str} (h : ∀ j, j < ts.length → ¬ (ts.getD j default).name = n) : findT ts n = none := by
  unfold findT
  rw [List.find?_eq_none]
  intro x hx
  obtain ⟨j, hj, rfl⟩ := List.getElem_of_mem hx
  have := h j hj
  rw [getD_eq hj] at this
  simpa using this
theorem findT_at {ts : List Tab} {n : Str} {i : Nat} (hi : i < ts.length) (h : ∀ j, j < i → ¬ (ts.getD j default).name = n) (hn : (ts.getD i default).name = n) : findT ts n = some (ts.getD i default) := by
  unfold findT
  rw [getD_eq hi] at hn ⊢
  rw [List.find?_eq_some_iff_getElem]
  refine ⟨by simpa using hn, i, hi, rfl, fun j hj => ?_⟩
  have := h j hj
  rw [getD_eq (Nat.lt_trans hj hi)] at this
  simpa using this
abbrev tabZ : List AV := [sv s0, sv s0, nilV, iv 0]
theorem tabC_ok (c : Cat) (n : Str) : Pure Tryz.prog 29 [.agg c.cells, sv n] (gotT (findT c.tables n)) := by
  refine Pure.runk (fun _ => 0) Tryz.func29 comp29 era29 (Nat.le_of_ble_eq_true rfl) fun σ => ?_
  repeat' (first | exact .nil | refine .k0 ?_ | refine .k1 ?_ | refine .k2 ?_ | refine .k6 ?_ | refine .r1 ?_ ?_ | (refine .l1 ?_; intro b) | (refine .m1 ?_ ?_; intro b) | (refine .m2 ?_ ?_; intro hlen) | fail)
  try any_goals ((intro hob; fail))
  all_goals (try simp only [BL] at *)
  refine WK_loop (fun m rg σ' => ∃ i : Nat, i ≤ c.tables.length ∧ m = c.tables.length - i ∧ (∀ j, j < i → ¬ (c.tables.getD j default).name = n) ∧ σ' = (4, b, Blk.cells tabZ) :: σ ∧ rg = [(1, sv n), (4, .lp 4 b 0), (9, .sl false 4 (c.tables.map Tab.cells)), (10, iv c.tables.length), (11, iv i)]) c.tables.length rfl ⟨_, _, by repeat' first | exact .refl _ | fail, by repeat' first | exact .refl _ | refine .same ?_ | refine .cons ?_, 0, Nat.zero_le _, rfl, fun j hj => absurd hj (by omega), rfl, rfl⟩ ?_
  rintro m _ _ ⟨i, hi, hn, hp, rfl, rfl⟩
  repeat' (first | exact .nil | refine .k0 ?_ | refine .k1 ?_ | refine .k2 ?_ | refine .k6 ?_ | refine .k7 ?_ | refine .k8 ?_ | refine .k9 ?_ | (refine .cd ?_ ?_ <;> (intro hc; skip)) | refine .r1 ?_ ?_ | (refine .l1 ?_; intro b) | refine .t1 ?_ ?_ ?_ | fail)
  try any_goals ((intro hob; first | (simp_all; done) | fail))
  all_goals (try simp only [BL] at *)
  · rw [findT_at (by omega) hp hc]
    (refine Sx.Fin.wk (by repeat' first | exact .refl _ | refine .cons ?_) ?_; repeat' first | exact .refl _ | fail)
  · refine ⟨c.tables.length - (i + 1), by omega, _, _, by repeat' first | exact .refl _ | fail, by repeat' first | exact .refl _ | refine .cons ?_, i + 1, by omega, rfl, cons_lt hp hc, rfl, by rw [up1 (n := c.tables.length) (by omega) (by assumption)]⟩
  · rw [findT_no (fun j hj => hp j (by omega))]
    (refine Sx.Fin.wk (by repeat' first | exact .refl _ | refine .cons ?_) ?_; repeat' first | exact .refl _ | exact .nil | refine .cons ?_ ?_ | refine .tup ?_ | refine .agg ?_ | fail)
end Go.Proofs.YtekngilbecjkhaaGreatDoor

/- CatalogCloses. -/
set_option linter.unusedSimpArgs false
set_option linter.unusedVariables false
set_option maxRecDepth 100000
set_option maxHeartbeats 4000000
namespace Go.Proofs.YtekngilbecjkhaaGreatDoor
open Go.Sx Go.Proofs Go.Tb
def sortL : List Str → List Str
  | [] => []
  | s :: l => putL (sortL l) s
theorem sortL_mem {x : Str} : ∀ {l : List Str}, x ∈ sortL l ↔ x ∈ l
  | [] => Iff.rfl
  | s :: l => by rw [sortL, putL_mem, sortL_mem (l := l), List.mem_cons]
theorem sortL_srt : ∀ l : List Str, Srt (sortL l)
  | [] => srt_nil
  | s :: l => putL_srt (sortL_srt l)
open Classical in
theorem srtOf_mem {p : Str → Prop} {u : List Str} (h : ∀ x, p x → x ∈ u) (x : Str) : x ∈ srtOf p ↔ p x := by
  have h2 : ∀ x, x ∈ sortL (u.filter fun x => decide (p x)) ↔ p x := fun x => by
    rw [sortL_mem, List.mem_filter]
    exact ⟨fun h => by simpa using h.2, fun k => ⟨h x k, by simpa using k⟩⟩
  rw [srtOf_eq (sortL_srt _) h2]; exact h2 x
theorem usesT_mem {fs : List Fea} {x : Ex} {s : Str} : s ∈ usesT fs x ↔ ReachT fs x.feats x.tabs s := srtOf_mem (u := univT fs x) (fun s h => reachT_univ h) s
theorem uses_row (c : Cat) (x : Ex) (hs : Small c) (hc : c.Fits) (hz : x.size ≤ 5000) (hx : x.wt ≤ 2 ^ 60) : Pure Tryz.prog 15 [.agg c.cells, .agg x.row] (.tup [strsV (usesF c.features x), strsV (usesT c.features x)]) := by
  have h := uses_ok c x (usmall hs hc hz hx); rwa [Ex.cells_row] at h
end Go.Proofs.YtekngilbecjkhaaGreatDoor

/- The plain law of CatalogOrders. -/
set_option linter.unusedSimpArgs false
set_option linter.unusedVariables false
set_option maxRecDepth 100000
set_option maxHeartbeats 4000000
namespace Go.Proofs.YtekngilbecjkhaaGreatDoor
open Go.Sx Go.Proofs Go.Tb
section
variable {fs : List Fea}
theorem cyc_of {g : Str → List Str} {S : Str → Prop} {N : List Str} (hN : ∀ s, S s → s ∈ N) (hS : ∀ s, S s → ∃ t ∈ g s, S t) {a : Str} (ha : S a) : ∃ b q, S b ∧ Cyc g b q := by
  have key : ∀ k, ∃ q : List Str, q.length = k ∧ Pth g a q ∧ (∀ s ∈ a :: q, S s) := by
    intro k
    induction k with
    | zero => exact ⟨[], rfl, trivial, fun s hs => by simp at hs; subst hs; exact ha⟩
    | succ k ih =>
      obtain ⟨q, h1, h2, h3⟩ := ih
      have hl : S (lst a q) := by
        have : ∀ (q : List Str) (a : Str), lst a q ∈ a :: q := fun q => by
          induction q with
          | nil => intro a; simp [lst]
          | cons b q ih => intro a; rw [lst]; exact List.mem_cons_of_mem _ (ih b)
        exact h3 _ (this q a)
      obtain ⟨t, ht, hst⟩ := hS _ hl
      exact ⟨q ++ [t], by simp [h1], h2.snoc ht, fun s hs => by
        rw [← List.cons_append, List.mem_append, List.mem_singleton] at hs
        rcases hs with hs | rfl
        · exact h3 s hs
        · exact hst⟩
  obtain ⟨q, h1, h2, h3⟩ := key N.length
  have hnd : ¬ (a :: q).Nodup := fun hd => by
    have := nodup_le hd fun s hs => hN s (h3 s hs)
    simp only [List.length_cons] at this; omega
  have split : ∀ (q : List Str) (a : Str), Pth g a q → ¬ (a :: q).Nodup → ∃ b y, b ∈ a :: q ∧ Cyc g b y := fun q => by
    induction q with
    | nil => intro a _ h; exact absurd (by simp) h
    | cons b q ih =>
      intro a hp hnd
      by_cases hm : a ∈ b :: q
      · obtain ⟨x, y, e⟩ := List.append_of_mem hm
        refine ⟨a, x, by simp, ?_, ?_⟩
        · rw [e] at hp; exact hp.left
        · rw [e] at hp; exact (hp.right (l := x)).1
      · have := ih b hp.2 (fun hd => hnd (List.nodup_cons.2 ⟨hm, hd⟩))
        obtain ⟨c, y, h1, h2⟩ := this
        exact ⟨c, y, List.mem_cons_of_mem _ h1, h2⟩
  obtain ⟨b, y, hb, hc⟩ := split q a h2 hnd
  exact ⟨b, y, h3 b hb, hc⟩
theorem order_all_of {l : List Str} (h : OInv (deps fs) (namesF fs) l) (hn : ordNext (deps fs) (namesF fs) l = none) (hc : ∀ a ∈ namesF fs, ∀ q, ¬ Cyc (deps fs) a q) : l.length = (namesF fs).length := by
  refine Nat.le_antisymm h.len (nodup_le (srt_nodup (namesF_srt fs)) fun a ha => ?_)
  by_cases hal : a ∈ l
  · exact hal
  · exfalso
    obtain ⟨b, q, hb, hq⟩ := cyc_of (g := deps fs) (S := fun s => s ∈ namesF fs ∧ s ∉ l) (N := namesF fs) (fun s hs => hs.1) (fun s hs => by
      have h1 := List.find?_eq_none.1 hn s hs.1
      rw [ready_iff] at h1
      have h2 : ¬ ∀ m ∈ deps fs s, m ∈ l := fun h3 => h1 ⟨hs.2, h3⟩
      obtain ⟨m, hm⟩ := Classical.not_forall.1 h2
      obtain ⟨hm1, hm2⟩ := Classical.not_imp.1 hm
      exact ⟨m, hm1, deps_to hm1, hm2⟩) ⟨ha, hal⟩
    exact hc b hb.1 q hq
theorem order_all_no {l : List Str} (h : OInv (deps fs) (namesF fs) l) (hl : l.length = (namesF fs).length) (a : Str) (q : List Str) : ¬ Cyc (deps fs) a q := fun hc => by
  have hmem : ∀ s ∈ namesF fs, s ∈ l := nodup_sub h.d h.s (by omega)
  have hr : ∀ a b, b ∈ deps fs a → l.findIdx (fun x => decide (x = b)) < l.findIdx (fun x => decide (x = a)) := fun a b hb => by
    have ha := hmem a (deps_of hb)
    have hi : l.findIdx (fun x => decide (x = a)) < l.length := List.findIdx_lt_length_of_exists ⟨a, ha, by simp⟩
    have e0 : l[l.findIdx (fun x => decide (x = a))] = a := of_decide_eq_true (List.findIdx_getElem (w := hi))
    have hb2 : b ∈ l.take (l.findIdx (fun x => decide (x = a))) := h.b _ hi b (by rw [e0]; exact hb)
    obtain ⟨j, hj, e⟩ := List.getElem_of_mem hb2
    rw [List.getElem_take] at e
    have hjl : j < l.findIdx (fun x => decide (x = a)) := by simp at hj; omega
    rcases Nat.lt_or_ge j (l.findIdx (fun x => decide (x = b))) with h1 | h1
    · have := List.not_of_lt_findIdx h1
      simp [e] at this
    · omega
  have h1 := rank_cyc (r := fun a => l.findIdx (fun x => decide (x = a))) hr q a hc.1
  have h2 := hr _ _ hc.2
  omega
theorem order_all (fs : List Fea) (hcy : IsCyc (deps fs) (namesF fs) (cycL (deps fs) (namesF fs))) : (orderL (deps fs) (namesF fs)).length = (namesF fs).length ↔ cycL (deps fs) (namesF fs) = [] := by
  obtain ⟨h, hn⟩ := orderL_ok (deps fs) (namesF fs)
  constructor
  · intro hl
    rcases hcy with ⟨e, _⟩ | ⟨a, q, e, ha, hb, _⟩
    · exact e
    · exact absurd hb.c (order_all_no h hl a q)
  · intro e
    rcases hcy with ⟨_, h0⟩ | ⟨a, q, e2, _⟩
    · exact order_all_of h hn h0
    · rw [e] at e2; cases e2
end
end Go.Proofs.YtekngilbecjkhaaGreatDoor

/- There is a best cycle. -/
set_option linter.unusedSimpArgs false
set_option linter.unusedVariables false
set_option maxRecDepth 100000
set_option maxHeartbeats 4000000
namespace Go.Proofs.YtekngilbecjkhaaGreatDoor
open Go.Sx Go.Proofs Go.Tb
theorem least_nat {p : Nat → Prop} : ∀ n, p n → ∃ m, p m ∧ ∀ k, p k → m ≤ k := by
  intro n
  induction n using Nat.strongRecOn with
  | _ n ih =>
    intro h
    by_cases hk : ∃ k, k < n ∧ p k
    · obtain ⟨k, h1, h2⟩ := hk; exact ih k h1 h2
    · exact ⟨n, h, fun k hp => by
        rcases Nat.lt_or_ge k n with h1 | h1
        · exact absurd ⟨k, h1, hp⟩ hk
        · exact h1⟩
open Classical in
theorem dst_ex (g : Str → List Str) (b : Str) : ∃ d, Dst g b d := by
  refine ⟨fun x => if h : ∃ k, Stp g k x b then (least_nat (p := fun k => Stp g k x b) h.choose h.choose_spec).choose else 1000, fun x hx => ?_, fun k x hk => ?_⟩
  · by_cases h : ∃ k, Stp g k x b
    · simp only [dif_pos h]; exact (least_nat (p := fun k => Stp g k x b) h.choose h.choose_spec).choose_spec.1
    · simp only [dif_neg h] at hx; omega
  · have h : ∃ k, Stp g k x b := ⟨k, hk⟩
    simp only [dif_pos h]; exact (least_nat (p := fun k => Stp g k x b) h.choose h.choose_spec).choose_spec.2 k hk
theorem gre_ex {g : Str → List Str} {b : Str} {d : Str → Nat} (hd : Dst g b d) : ∀ (n : Nat) (a : Str), d a = n + 1 → d a < 1000 → ∃ l, Gre g d n a l
  | 0, a, _, _ => ⟨[], .nil⟩
  | n + 1, a, ha, h1 => by
    obtain ⟨c, hc⟩ := hd.next ha h1
    have hdc : d c = n + 1 := by simpa using List.find?_some hc
    obtain ⟨l, hl⟩ := gre_ex hd n c hdc (by omega)
    exact ⟨c :: l, .cons hc hl⟩
theorem short_nodup {g : Str → List Str} {a : Str} {q : List Str} (hc : Cyc g a q) (hs : ∀ m, Cyc g a m → q.length ≤ m.length) : (a :: q).Nodup := by
  refine List.nodup_cons.2 ⟨fun hm => ?_, ?_⟩
  · obtain ⟨x, y, e⟩ := List.append_of_mem hm
    have hp := hc.1
    rw [e] at hp
    have := hs x ⟨hp.left, (hp.right (l := x)).1⟩
    rw [e, List.length_append, List.length_cons] at this; omega
  · by_cases hd : q.Nodup
    · exact hd
    · exfalso
      have split : ∀ q : List Str, ¬ q.Nodup → ∃ x c y z, q = x ++ c :: y ++ c :: z := fun q => by
        induction q with
        | nil => intro h; exact absurd .nil h
        | cons b q ih =>
          intro h
          by_cases hb : b ∈ q
          · obtain ⟨x, y, rfl⟩ := List.append_of_mem hb
            exact ⟨[], b, x, y, by simp⟩
          · obtain ⟨x, c, y, z, e⟩ := ih fun hq => h (List.nodup_cons.2 ⟨hb, hq⟩)
            exact ⟨b :: x, c, y, z, by rw [e]; simp⟩
      obtain ⟨x, c, y, z, e⟩ := split q hd
      have hp := hc.1
      have hl := hc.2
      rw [e] at hp hl
      have h1 : Pth g a x := by rw [List.append_assoc] at hp; exact hp.left
      have h2 : c ∈ g (lst a x) := by rw [List.append_assoc] at hp; exact (hp.right (l := x)).1
      have h3 : Pth g c z := (hp.right (l := x ++ c :: y)).2
      have h4 : lst a (x ++ c :: y ++ c :: z) = lst c z := by rw [lst_app]; rfl
      rw [h4] at hl
      have h5 : Cyc g a (x ++ c :: z) := ⟨Pth.app h1 ⟨h2, h3⟩, by rw [lst_app]; exact hl⟩
      have := hs _ h5
      rw [e] at this
      simp at this
      omega
theorem best_ex {g : Str → List Str} (hg : ∀ n, Srt (g n)) {N : List Str} (hN : ∀ x y, y ∈ g x → y ∈ N) (hl : N.length < 999) {a : Str} {q : List Str} (hc : Cyc g a q) (hs : ∀ m, Cyc g a m → q.length ≤ m.length) : ∃ l, Best g a l ∧ l.length = q.length := by
  obtain ⟨d, hd⟩ := dst_ex g a
  have hq : q.length < 999 := by
    have hnd := (List.nodup_cons.1 (short_nodup hc hs)).2
    have hsub : ∀ (q : List Str) (a : Str), Pth g a q → ∀ s ∈ q, s ∈ N := fun q => by
      induction q with
      | nil => intro a _ s h; cases h
      | cons b q ih =>
        intro a hp s h
        rcases List.mem_cons.1 h with rfl | h
        · exact hN _ _ hp.1
        · exact ih b hp.2 s h
    have := nodup_le hnd (hsub q a hc.1)
    omega
  have h1 : d a ≤ q.length + 1 := hd.l _ _ (hc.1.stp hc.2)
  have h2 := hd.r a (by omega)
  have h3 := h2.pos
  obtain ⟨l, hgr⟩ := gre_ex hd (d a - 1) a (by omega) (by omega)
  have hb := Gre.isBest hg hd hgr (by omega) (by omega)
  exact ⟨l, hb, Nat.le_antisymm (hb.s q hc) (hs l hb.c)⟩
theorem cycL_is (g : Str → List Str) (hg : ∀ n, Srt (g n)) {N : List Str} (hNs : Srt N) (hN : ∀ x y, y ∈ g x → y ∈ N) (hl : N.length < 999) : IsCyc g N (cycL g N) := by
  have ex : ∃ l, IsCyc g N l := by
    by_cases h0 : ∃ a ∈ N, ∃ q, Cyc g a q
    · obtain ⟨a1, ha1, q1, hq1⟩ := h0
      obtain ⟨k, ⟨a0, ha0, q0, hq0, hk0⟩, hmin⟩ := least_nat (p := fun k => ∃ a ∈ N, ∃ q, Cyc g a q ∧ q.length = k) q1.length ⟨a1, ha1, q1, hq1, rfl⟩
      classical
      have hsome : (N.find? fun a => decide (∃ q, Cyc g a q ∧ q.length = k)).isSome := by
        rw [List.find?_isSome]; exact ⟨a0, ha0, by simpa using ⟨q0, hq0, hk0⟩⟩
      obtain ⟨a, ha⟩ := Option.isSome_iff_exists.1 hsome
      have haN := List.mem_of_find?_eq_some ha
      have hp := List.find?_some ha
      simp only [decide_eq_true_eq] at hp
      obtain ⟨q, hq, hqk⟩ := hp
      obtain ⟨l, hb, hbl⟩ := best_ex hg hN hl hq (fun m hm => by rw [hqk]; exact hmin _ ⟨a, haN, m, hm, rfl⟩)
      refine ⟨a :: l, .inr ⟨a, l, rfl, haN, hb, fun b hbN hlt m hm => ?_, fun b hbN m hm => by rw [hbl, hqk]; exact hmin _ ⟨b, hbN, m, hm, rfl⟩⟩⟩
      have h1 := hmin _ ⟨b, hbN, m, hm, rfl⟩
      rcases Nat.eq_or_lt_of_le h1 with h2 | h2
      · exfalso
        rcases fst_least hNs ha b hbN (by simpa using ⟨m, hm, h2.symm⟩) with h3 | h3
        · rw [h3, sLt_irrefl] at hlt; cases hlt
        · rw [sLt_asymm h3] at hlt; cases hlt
      · omega
    · exact ⟨[], .inl ⟨rfl, fun a ha q hq => h0 ⟨a, ha, q, hq⟩⟩⟩
  obtain ⟨l, hl⟩ := ex
  rw [cycL_eq hl]; exact hl
end Go.Proofs.YtekngilbecjkhaaGreatDoor
