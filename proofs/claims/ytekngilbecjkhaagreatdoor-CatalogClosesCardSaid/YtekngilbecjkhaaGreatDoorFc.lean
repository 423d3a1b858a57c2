
/- CatalogCloses. -/
import Derived.Test.YtekngilbecjkhaaGreatDoorFb
set_option linter.unusedSimpArgs false
set_option linter.unusedVariables false
set_option maxRecDepth 100000
set_option maxHeartbeats 4000000
namespace Go.Proofs.YtekngilbecjkhaaGreatDoor
open Go.Sx Go.Proofs Go.Tb
/-! What is used, by membership. -/
def sortL : List Str → List Str
  | [] => []
  | s :: l => putL (sortL l) s
theorem sortL_mem {x : Str} : ∀ {l : List Str}, x ∈ sortL l ↔ x ∈ l
  | [] => Iff.rfl
  | s :: l => by rw [sortL, putL_mem, sortL_mem (l := l), List.mem_cons]
theorem sortL_srt : ∀ l : List Str, Srt (sortL l)
  | [] => srt_nil
  | s :: l => putL_srt (sortL_srt l)
open Classical in
theorem srtOf_mem {p : Str → Prop} {u : List Str} (h : ∀ x, p x → x ∈ u) (x : Str) : x ∈ srtOf p ↔ p x := by
  have h2 : ∀ x, x ∈ sortL (u.filter fun x => decide (p x)) ↔ p x := fun x => by
    rw [sortL_mem, List.mem_filter]
    exact ⟨fun h => by simpa using h.2, fun k => ⟨h x k, by simpa using k⟩⟩
  rw [srtOf_eq (sortL_srt _) h2]; exact h2 x
theorem usesF_mem {fs : List Fea} {x : Ex} {s : Str} : s ∈ usesF fs x ↔ Reach fs x.feats s := srtOf_mem (u := univ fs x.feats) (fun s h => reach_univ h) s
theorem usesT_mem {fs : List Fea} {x : Ex} {s : Str} : s ∈ usesT fs x ↔ ReachT fs x.feats x.tabs s := srtOf_mem (u := univT fs x) (fun s h => reachT_univ h) s
theorem reach_sub {fs : List Fea} {x : Ex} {n s : Str} {f : Fea} (hn : Reach fs x.feats n) (hf : findF fs n = some f) (h : Reach fs f.body.feats s) : Reach fs x.feats s := by
  induction h with
  | base h => exact .step hn hf h
  | step _ hg hm ih => exact .step ih hg hm
theorem uses_sub {fs : List Fea} {x : Ex} {n : Str} {f : Fea} (hn : n ∈ usesF fs x) (hf : findF fs n = some f) : (∀ s ∈ usesF fs f.body, s ∈ usesF fs x) ∧ ∀ s ∈ usesT fs f.body, s ∈ usesT fs x := by
  rw [usesF_mem] at hn
  refine ⟨fun s h => ?_, fun s h => ?_⟩
  · rw [usesF_mem] at h ⊢; exact reach_sub hn hf h
  · rw [usesT_mem] at h ⊢
    rcases h with h | ⟨m, g, h1, h2, h3⟩
    · exact .inr ⟨n, f, hn, hf, h⟩
    · exact .inr ⟨m, g, reach_sub hn hf h1, h2, h3⟩
theorem dir_sub {fs : List Fea} {x : Ex} : (∀ s ∈ dirF x, s ∈ usesF fs x) ∧ ∀ s ∈ dirT x, s ∈ usesT fs x :=
  ⟨fun s h => usesF_mem.2 (.base (dirF_mem.1 h)), fun s h => usesT_mem.2 (.inl (dirT_mem.1 h))⟩
theorem dir_none {fs : List Fea} {x : Ex} (h : dirF x = []) : usesF fs x = [] ∧ usesT fs x = dirT x := by
  have hn : ∀ s, ¬ Reach fs x.feats s := fun s hs => by
    induction hs with
    | base h' => have := dirF_mem.2 h'; rw [h] at this; cases this
    | step _ _ _ ih => exact ih
  refine ⟨List.eq_nil_iff_forall_not_mem.2 fun s hs => hn s (usesF_mem.1 hs), ?_⟩
  exact srtOf_eq (dirT_srt x) fun s => by
    rw [dirT_mem]
    exact ⟨.inl, fun h => by rcases h with h | ⟨n, f, h, _⟩; exact h; exact (hn n h).elim⟩
theorem from_some {fs : List Fea} {x : Ex} {s : Str} (h : s ∈ usesF fs x) (hd : s ∉ dirF x) : ∃ n f, n ∈ usesF fs x ∧ findF fs n = some f ∧ s ∈ dirF f.body := by
  rw [usesF_mem] at h
  cases h with
  | base h => exact absurd (dirF_mem.2 h) hd
  | step h hf hm => exact ⟨_, _, usesF_mem.2 h, hf, dirF_mem.2 hm⟩
theorem within_ok (l m : List Str) : Pure Tryz.prog 23 [strsA l, strsA m] (.v (.bool (decide (∀ s ∈ l, s ∈ m)))) := by
  refine Pure.runk (fun _ => 0) Tryz.func23 comp23 era23 (Nat.le_of_ble_eq_true rfl) fun σ => ?_
  repeat' (first | exact .nil | refine .k0 ?_ | refine .k1 ?_ | refine .k2 ?_ | refine .k3 ?_ | refine .k4 ?_ | refine .k5 ?_ | refine .k6 ?_ | refine .k7 ?_ | refine .k8 ?_ | refine .k9 ?_ | (refine .cd ?_ ?_ <;> first | with_reducible exact tF | with_reducible exact fT | (intro hc; first | exact kf hc (by assumption) | exact kt hc (by assumption) | skip)) | refine .r1 ?_ ?_ | (refine .l1 ?_; intro b) | (refine .m1 ?_ ?_; intro b) | (refine .m2 ?_ ?_; intro hlen) | (refine .m3 ?_ ?_; intro hlen) | refine .t1 ?_ ?_ ?_ | refine .t2 ?_ ?_ ?_ | refine .t3 ?_ ?_ ?_ | refine .t4 ?_ ?_ ?_ | (refine .l2 ?_; intro b) | refine .u1 ?_ ?_ ?_ (fun b u c => ?_) | refine .u2 ?_ ?_ ?_ (fun b u c => ?_) | refine .u4 ?_ ?_ (fun b u c => ?_) | refine .u5 ?_ ?_ ?_ | refine .u3 ?_ ?_ (fun hr0 => ?_) (fun hr1 b u c => ?_) | refine .an rfl (by intro hob; first | exact in_ok _ _) ?_ ?_ | refine .t5 ?_ ?_ ?_ | refine .t6 ?_ ?_ ?_ | refine .t7 ?_ ?_ ?_ | refine .r2 ?_ ?_ | refine .r3 ?_ ?_ | refine .r4 ?_ ?_ | refine .r5 ?_ ?_ | (refine .l3 ?_; intro b) | refine .r6 ?_ ?_ | refine .r7 ?_ ?_ | refine .r8 ?_ ?_ | refine .r9 ?_ ?_ | refine .ra ?_ ?_ | (show List.all _ _ = true; rfl) | (show (_ : Nat) = _; rfl))
  try any_goals ((intro hob; first | (simp_all; done) | (simp only [BL] at *; first | (simp_all; done) | omega)))
  all_goals (try simp only [BL] at *)
  refine WK_loop (fun n rg σ' => ∃ i : Nat, i ≤ l.length ∧ n = l.length - i ∧ (∀ j, j < i → l.getD j default ∈ m) ∧ σ' = σ ∧ rg = [(0, strsA l), (1, strsA m), (5, iv i)]) l.length rfl ⟨_, _, by repeat' first | exact .row | exact .refl _ | exact .nil | refine .cons ?_ ?_ | refine .tup ?_ | refine .agg ?_ | exact .sl | exact .own _ | exact .tag, by repeat' first | exact .refl _ | refine .same ?_ | refine .cons ?_, 0, Nat.zero_le _, rfl, fun j hj => absurd hj (by omega), rfl, rfl⟩ ?_
  rintro n _ _ ⟨i, hi, hn, hp, rfl, rfl⟩
  repeat' (first | exact .nil | refine .k0 ?_ | refine .k1 ?_ | refine .k2 ?_ | refine .k3 ?_ | refine .k4 ?_ | refine .k5 ?_ | refine .k6 ?_ | refine .k7 ?_ | refine .k8 ?_ | refine .k9 ?_ | (refine .cd ?_ ?_ <;> first | with_reducible exact tF | with_reducible exact fT | (intro hc; first | exact kf hc (by assumption) | exact kt hc (by assumption) | skip)) | refine .r1 ?_ ?_ | (refine .l1 ?_; intro b) | (refine .m1 ?_ ?_; intro b) | (refine .m2 ?_ ?_; intro hlen) | (refine .m3 ?_ ?_; intro hlen) | refine .t1 ?_ ?_ ?_ | refine .t2 ?_ ?_ ?_ | refine .t3 ?_ ?_ ?_ | refine .t4 ?_ ?_ ?_ | (refine .l2 ?_; intro b) | refine .u1 ?_ ?_ ?_ (fun b u c => ?_) | refine .u2 ?_ ?_ ?_ (fun b u c => ?_) | refine .u4 ?_ ?_ (fun b u c => ?_) | refine .u5 ?_ ?_ ?_ | refine .u3 ?_ ?_ (fun hr0 => ?_) (fun hr1 b u c => ?_) | refine .an rfl (by intro hob; first | exact in_ok _ _) ?_ ?_ | refine .t5 ?_ ?_ ?_ | refine .t6 ?_ ?_ ?_ | refine .t7 ?_ ?_ ?_ | refine .r2 ?_ ?_ | refine .r3 ?_ ?_ | refine .r4 ?_ ?_ | refine .r5 ?_ ?_ | (refine .l3 ?_; intro b) | refine .r6 ?_ ?_ | refine .r7 ?_ ?_ | refine .r8 ?_ ?_ | refine .r9 ?_ ?_ | refine .ra ?_ ?_ | (show List.all _ _ = true; rfl) | (show (_ : Nat) = _; rfl))
  try any_goals ((intro hob; first | (simp_all; done) | (simp only [BL] at *; first | (simp_all; done) | omega)))
  all_goals (try simp only [BL] at *)
  · refine Sx.Fin.intro (by repeat' first | exact .refl _ | refine .same ?_ | refine .cons ?_) (bf ?_)
    intro h; exact hc (h _ (getD_mem (by omega)))
  · refine ⟨l.length - (i + 1), by omega, _, _, by repeat' first | exact .row | exact .refl _ | exact .nil | refine .cons ?_ ?_ | refine .tup ?_ | refine .agg ?_ | exact .sl | exact .own _ | exact .tag, by repeat' first | exact .refl _ | refine .same ?_ | refine .cons ?_, i + 1, by omega, rfl, cons_lt hp hc, rfl, by rw [up1 (n := l.length) (by omega) (by assumption)]⟩
  · refine Sx.Fin.intro (by repeat' first | exact .refl _ | refine .same ?_ | refine .cons ?_) (bt ?_)
    intro s hs
    obtain ⟨j, hj, rfl⟩ := List.getElem_of_mem hs
    have := hp j (by omega)
    rwa [getD_eq hj] at this
theorem within_t {l m : List Str} (h : ∀ s ∈ l, s ∈ m) : Pure Tryz.prog 23 [strsA l, strsA m] (.v (.bool true)) := by have := within_ok l m; rwa [decide_eq_true h] at this
theorem direct_nil (x : Ex) (hz : x.size ≤ 5000) : Pure Tryz.prog 22 [.agg x.row, nilA, nilA] (.tup [strsA (dirF x), strsA (dirT x)]) := dirR_nil x (by have := feats_size x; omega) (by have := feats_size x; omega)
theorem uses_row (c : Cat) (x : Ex) (hs : Small c) (hc : c.Fits) (hz : x.size ≤ 5000) (hx : x.wt ≤ 2 ^ 60) : Pure Tryz.prog 15 [.agg c.cells, .agg x.row] (.tup [strsV (usesF c.features x), strsV (usesT c.features x)]) := by
  have h := uses_ok c x (usmall hs hc hz hx); rwa [Ex.cells_row] at h
theorem uses_len {fs : List Fea} {x : Ex} (h : UFit fs x) : (usesF fs x).length ≤ 500000 := by
  have h1 : Srt (usesF fs x) := by
    have h2 : ∀ s, s ∈ sortL (usesF fs x) ↔ Reach fs x.feats s := fun s => by rw [sortL_mem, usesF_mem]
    have := srtOf_eq (sortL_srt _) h2
    rw [show usesF fs x = srtOf (Reach fs x.feats) from rfl, this]; exact sortL_srt _
  exact Nat.le_trans (srt_univ h1 fun n hn => usesF_mem.1 hn) h.f
theorem got_small {c : Cat} (hs : Small c) (hc : c.Fits) (n : Str) : ((findF c.features n).getD zfe).body.size ≤ 5000 ∧ ((findF c.features n).getD zfe).body.wt ≤ 2 ^ 60 := by
  cases h : findF c.features n with
  | none => exact ⟨by decide +kernel, by decide +kernel⟩
  | some f => have hm := (findF_mem h).1; exact ⟨by have := body_size hs hm; simp only [Option.getD_some]; omega, hc.b f hm⟩
theorem got_sub {fs : List Fea} {x : Ex} {n : Str} (hn : n ∈ usesF fs x) (hk : (findF fs n).isSome = true) : (∀ s ∈ usesF fs ((findF fs n).getD zfe).body, s ∈ usesF fs x) ∧ ∀ s ∈ usesT fs ((findF fs n).getD zfe).body, s ∈ usesT fs x := by
  obtain ⟨f, hf⟩ := Option.isSome_iff_exists.1 hk
  have := uses_sub hn hf
  rw [hf]; exact this
theorem catalogCloses_ok (c : Cat) (x : Ex) (hc0 : c.Fits) (hx : x.wt ≤ 2 ^ 60) : Pure Tryz.prog 6 [.agg c.cells, .agg x.row] (.v (.bool true)) := by
  have hZ := sizeX_ok x 500 (by omega) (by omega)
  by_cases hs : Small c
  rotate_left
  · have hS := small_f hs
    refine Pure.runk (fun _ => 0) Tryz.func6 comp6 era6 (Nat.le_of_ble_eq_true rfl) fun σ => ?_
    repeat' (first | exact .nil | refine .k0 ?_ | refine .k1 ?_ | refine .k2 ?_ | refine .k3 ?_ | refine .k4 ?_ | refine .k5 ?_ | refine .k6 ?_ | refine .k7 ?_ | refine .k8 ?_ | refine .k9 ?_ | (refine .cd ?_ ?_ <;> first | with_reducible exact tF | with_reducible exact fT | (intro hc; first | exact kf hc (by assumption) | exact kt hc (by assumption) | skip)) | refine .r1 ?_ ?_ | (refine .l1 ?_; intro b) | (refine .m1 ?_ ?_; intro b) | (refine .m2 ?_ ?_; intro hlen) | (refine .m3 ?_ ?_; intro hlen) | refine .t1 ?_ ?_ ?_ | refine .t2 ?_ ?_ ?_ | refine .t3 ?_ ?_ ?_ | refine .t4 ?_ ?_ ?_ | (refine .l2 ?_; intro b) | refine .u1 ?_ ?_ ?_ (fun b u c => ?_) | refine .u2 ?_ ?_ ?_ (fun b u c => ?_) | refine .u4 ?_ ?_ (fun b u c => ?_) | refine .u5 ?_ ?_ ?_ | refine .u3 ?_ ?_ (fun hr0 => ?_) (fun hr1 b u c => ?_) | refine .an rfl (by intro hob; first | exact hS | exact hZ | exact hU | exact hD | exact hW1 | exact hW2 | exact hA | exact hB | exact hV1 (by first | omega | (simp only [BL] at *; omega)) (by first | assumption | (simpa using hc)) | exact hV2 (by first | omega | (simp only [BL] at *; omega)) (by first | assumption | (simpa using hc)) | exact hI | exact hJ | exact hK | exact hL | exact example_ok) ?_ ?_ | refine .t5 ?_ ?_ ?_ | refine .t6 ?_ ?_ ?_ | refine .t7 ?_ ?_ ?_ | refine .r2 ?_ ?_ | refine .r3 ?_ ?_ | refine .r4 ?_ ?_ | refine .r5 ?_ ?_ | (refine .l3 ?_; intro b) | refine .r6 ?_ ?_ | refine .r7 ?_ ?_ | refine .r8 ?_ ?_ | refine .r9 ?_ ?_ | refine .ra ?_ ?_ | (show List.all _ _ = true; rfl) | (show (_ : Nat) = _; rfl))
    try any_goals ((intro hob; first | (simp_all; done) | (simp only [BL] at *; first | (simp_all; done) | omega)))
    all_goals (try simp only [BL] at *)
    all_goals first | (show Sx.Fin _ _ _ _; (refine Sx.Fin.wk (by repeat' first | exact .refl _ | refine .same ?_ | refine .cons ?_) ?_; repeat' first | exact .refl _ | exact .nil | refine .cons ?_ ?_ | refine .tup ?_ | refine .agg ?_ | exact .sl | exact .own _); done) | (exfalso; first | exact absurd hc.1 (by decide) | omega | (simp at hc; omega) | (simp at hc; done))
  have hS := small_t hs
  by_cases hz : szE x 500 ≤ 500
  rotate_left
  · refine Pure.runk (fun _ => 0) Tryz.func6 comp6 era6 (Nat.le_of_ble_eq_true rfl) fun σ => ?_
    repeat' (first | exact .nil | refine .k0 ?_ | refine .k1 ?_ | refine .k2 ?_ | refine .k3 ?_ | refine .k4 ?_ | refine .k5 ?_ | refine .k6 ?_ | refine .k7 ?_ | refine .k8 ?_ | refine .k9 ?_ | (refine .cd ?_ ?_ <;> first | with_reducible exact tF | with_reducible exact fT | (intro hc; first | exact kf hc (by assumption) | exact kt hc (by assumption) | skip)) | refine .r1 ?_ ?_ | (refine .l1 ?_; intro b) | (refine .m1 ?_ ?_; intro b) | (refine .m2 ?_ ?_; intro hlen) | (refine .m3 ?_ ?_; intro hlen) | refine .t1 ?_ ?_ ?_ | refine .t2 ?_ ?_ ?_ | refine .t3 ?_ ?_ ?_ | refine .t4 ?_ ?_ ?_ | (refine .l2 ?_; intro b) | refine .u1 ?_ ?_ ?_ (fun b u c => ?_) | refine .u2 ?_ ?_ ?_ (fun b u c => ?_) | refine .u4 ?_ ?_ (fun b u c => ?_) | refine .u5 ?_ ?_ ?_ | refine .u3 ?_ ?_ (fun hr0 => ?_) (fun hr1 b u c => ?_) | refine .an rfl (by intro hob; first | exact hS | exact hZ | exact hU | exact hD | exact hW1 | exact hW2 | exact hA | exact hB | exact hV1 (by first | omega | (simp only [BL] at *; omega)) (by first | assumption | (simpa using hc)) | exact hV2 (by first | omega | (simp only [BL] at *; omega)) (by first | assumption | (simpa using hc)) | exact hI | exact hJ | exact hK | exact hL | exact example_ok) ?_ ?_ | refine .t5 ?_ ?_ ?_ | refine .t6 ?_ ?_ ?_ | refine .t7 ?_ ?_ ?_ | refine .r2 ?_ ?_ | refine .r3 ?_ ?_ | refine .r4 ?_ ?_ | refine .r5 ?_ ?_ | (refine .l3 ?_; intro b) | refine .r6 ?_ ?_ | refine .r7 ?_ ?_ | refine .r8 ?_ ?_ | refine .r9 ?_ ?_ | refine .ra ?_ ?_ | (show List.all _ _ = true; rfl) | (show (_ : Nat) = _; rfl))
    try any_goals ((intro hob; first | (simp_all; done) | (simp only [BL] at *; first | (simp_all; done) | omega)))
    all_goals (try simp only [BL] at *)
    all_goals first | (show Sx.Fin _ _ _ _; (refine Sx.Fin.wk (by repeat' first | exact .refl _ | refine .same ?_ | refine .cons ?_) ?_; repeat' first | exact .refl _ | exact .nil | refine .cons ?_ ?_ | refine .tup ?_ | refine .agg ?_ | exact .sl | exact .own _); done) | (exfalso; first | exact absurd hc.1 (by decide) | omega | (simp at hc; omega) | (simp at hc; done))
  have hz5 : x.size ≤ 5000 := by have := szE_small hz; omega
  have hU := uses_row c x hs hc0 hz5 hx
  have hD := direct_nil x hz5
  have hW1 := within_t (dir_sub (fs := c.features) (x := x)).1
  have hW2 := within_t (dir_sub (fs := c.features) (x := x)).2
  have hlen := uses_len (ufit hs hz5)
  refine Pure.runk (fun _ => 0) Tryz.func6 comp6 era6 (Nat.le_of_ble_eq_true rfl) fun σ => ?_
  repeat' (first | exact .nil | refine .k0 ?_ | refine .k1 ?_ | refine .k2 ?_ | refine .k3 ?_ | refine .k4 ?_ | refine .k5 ?_ | refine .k6 ?_ | refine .k7 ?_ | refine .k8 ?_ | refine .k9 ?_ | (refine .cd ?_ ?_ <;> first | with_reducible exact tF | with_reducible exact fT | (intro hc; first | exact kf hc (by assumption) | exact kt hc (by assumption) | skip)) | refine .r1 ?_ ?_ | (refine .l1 ?_; intro b) | (refine .m1 ?_ ?_; intro b) | (refine .m2 ?_ ?_; intro hlen) | (refine .m3 ?_ ?_; intro hlen) | refine .t1 ?_ ?_ ?_ | refine .t2 ?_ ?_ ?_ | refine .t3 ?_ ?_ ?_ | refine .t4 ?_ ?_ ?_ | (refine .l2 ?_; intro b) | refine .u1 ?_ ?_ ?_ (fun b u c => ?_) | refine .u2 ?_ ?_ ?_ (fun b u c => ?_) | refine .u4 ?_ ?_ (fun b u c => ?_) | refine .u5 ?_ ?_ ?_ | refine .u3 ?_ ?_ (fun hr0 => ?_) (fun hr1 b u c => ?_) | refine .an rfl (by intro hob; first | exact hS | exact hZ | exact hU | exact hD | exact hW1 | exact hW2 | exact hA | exact hB | exact hV1 (by first | omega | (simp only [BL] at *; omega)) (by first | assumption | (simpa using hc)) | exact hV2 (by first | omega | (simp only [BL] at *; omega)) (by first | assumption | (simpa using hc)) | exact hI | exact hJ | exact hK | exact hL | exact example_ok) ?_ ?_ | refine .t5 ?_ ?_ ?_ | refine .t6 ?_ ?_ ?_ | refine .t7 ?_ ?_ ?_ | refine .r2 ?_ ?_ | refine .r3 ?_ ?_ | refine .r4 ?_ ?_ | refine .r5 ?_ ?_ | (refine .l3 ?_; intro b) | refine .r6 ?_ ?_ | refine .r7 ?_ ?_ | refine .r8 ?_ ?_ | refine .r9 ?_ ?_ | refine .ra ?_ ?_ | (show List.all _ _ = true; rfl) | (show (_ : Nat) = _; rfl))
  try any_goals ((intro hob; first | (simp_all; done) | (simp only [BL] at *; first | (simp_all; done) | omega)))
  all_goals (try simp only [BL] at *)
  · show Sx.Fin _ _ _ _; (refine Sx.Fin.wk (by repeat' first | exact .refl _ | refine .same ?_ | refine .cons ?_) ?_; repeat' first | exact .refl _ | exact .nil | refine .cons ?_ ?_ | refine .tup ?_ | refine .agg ?_ | exact .sl | exact .own _)
  · exfalso
    have h0 : dirF x = [] := List.eq_nil_of_length_eq_zero (by omega)
    obtain ⟨h1, h2⟩ := dir_none (fs := c.features) h0
    rw [h1, h2] at hc
    rcases hc.2 with h | h <;> exact h (by simp)
  rename_i b2 _ _ _ _
  refine WK_loop (fun m rg σ' => ∃ i : Nat, i ≤ (usesF c.features x).length ∧ m = (usesF c.features x).length - i ∧ σ' = (2, b2, Blk.cells c.cells) :: σ ∧ rg = [(2, .lp 2 b2 0), (5, strsV (usesF c.features x)), (6, strsV (usesT c.features x)), (7, strsA (dirF x)), (9, iv i)]) (usesF c.features x).length rfl ⟨_, _, by repeat' first | exact .row | exact .refl _ | exact .nil | refine .cons ?_ ?_ | refine .tup ?_ | refine .agg ?_ | exact .sl | exact .own _ | exact .tag, by repeat' first | exact .refl _ | refine .same ?_ | refine .cons ?_, 0, Nat.zero_le _, rfl, rfl, rfl⟩ ?_
  rintro m _ _ ⟨i, hi, hm, rfl, rfl⟩
  have hA := featC_ok c ((usesF c.features x).getD i default)
  have hg := got_small hs hc0 ((usesF c.features x).getD i default)
  have hB := uses_row c _ hs hc0 hg.1 hg.2
  have hV1 := fun (h : i < (usesF c.features x).length) (hk : (findF c.features ((usesF c.features x).getD i default)).isSome = true) => within_t (got_sub (x := x) (getD_mem h) hk).1
  have hV2 := fun (h : i < (usesF c.features x).length) (hk : (findF c.features ((usesF c.features x).getD i default)).isSome = true) => within_t (got_sub (x := x) (getD_mem h) hk).2
  repeat' (first | exact .nil | refine .k0 ?_ | refine .k1 ?_ | refine .k2 ?_ | refine .k3 ?_ | refine .k4 ?_ | refine .k5 ?_ | refine .k6 ?_ | refine .k7 ?_ | refine .k8 ?_ | refine .k9 ?_ | (refine .cd ?_ ?_ <;> first | with_reducible exact tF | with_reducible exact fT | (intro hc; first | exact kf hc (by assumption) | exact kt hc (by assumption) | skip)) | refine .r1 ?_ ?_ | (refine .l1 ?_; intro b) | (refine .m1 ?_ ?_; intro b) | (refine .m2 ?_ ?_; intro hlen) | (refine .m3 ?_ ?_; intro hlen) | refine .t1 ?_ ?_ ?_ | refine .t2 ?_ ?_ ?_ | refine .t3 ?_ ?_ ?_ | refine .t4 ?_ ?_ ?_ | (refine .l2 ?_; intro b) | refine .u1 ?_ ?_ ?_ (fun b u c => ?_) | refine .u2 ?_ ?_ ?_ (fun b u c => ?_) | refine .u4 ?_ ?_ (fun b u c => ?_) | refine .u5 ?_ ?_ ?_ | refine .u3 ?_ ?_ (fun hr0 => ?_) (fun hr1 b u c => ?_) | refine .an rfl (by intro hob; first | exact hS | exact hZ | exact hU | exact hD | exact hW1 | exact hW2 | exact hA | exact hB | exact hV1 (by first | omega | (simp only [BL] at *; omega)) (by first | assumption | (simpa using hc)) | exact hV2 (by first | omega | (simp only [BL] at *; omega)) (by first | assumption | (simpa using hc)) | exact hI | exact hJ | exact hK | exact hL | exact example_ok) ?_ ?_ | refine .t5 ?_ ?_ ?_ | refine .t6 ?_ ?_ ?_ | refine .t7 ?_ ?_ ?_ | refine .r2 ?_ ?_ | refine .r3 ?_ ?_ | refine .r4 ?_ ?_ | refine .r5 ?_ ?_ | (refine .l3 ?_; intro b) | refine .r6 ?_ ?_ | refine .r7 ?_ ?_ | refine .r8 ?_ ?_ | refine .r9 ?_ ?_ | refine .ra ?_ ?_ | (show List.all _ _ = true; rfl) | (show (_ : Nat) = _; rfl))
  try any_goals ((intro hob; first | (simp_all; done) | (simp only [BL] at *; first | (simp_all; done) | omega)))
  all_goals (try simp only [BL] at *)
  all_goals first | (refine ⟨(usesF c.features x).length - (i + 1), by omega, _, _, by repeat' first | exact .row | exact .refl _ | exact .nil | refine .cons ?_ ?_ | refine .tup ?_ | refine .agg ?_ | exact .sl | exact .own _ | exact .tag, by repeat' first | exact .refl _ | refine .same ?_ | refine .cons ?_, i + 1, by omega, rfl, rfl, by rw [up1 (n := (usesF c.features x).length) (by omega) (by assumption)]⟩) | (exfalso; exact absurd hc (by decide)) | skip
  refine WK_loop (fun m rg σ' => ∃ i : Nat, i ≤ (usesF c.features x).length ∧ m = (usesF c.features x).length - i ∧ σ' = (2, b2, Blk.cells c.cells) :: σ ∧ rg = [(2, .lp 2 b2 0), (5, strsV (usesF c.features x)), (7, strsA (dirF x)), (14, iv i)]) (usesF c.features x).length rfl ⟨_, _, by repeat' first | exact .row | exact .refl _ | exact .nil | refine .cons ?_ ?_ | refine .tup ?_ | refine .agg ?_ | exact .sl | exact .own _ | exact .tag, by repeat' first | exact .refl _ | refine .same ?_ | refine .cons ?_, 0, Nat.zero_le _, rfl, rfl, rfl⟩ ?_
  rintro m2 _ _ ⟨i2, hi2, hm2, rfl, rfl⟩
  have hI := in_ok (dirF x) ((usesF c.features x).getD i2 default)
  repeat' (first | exact .nil | refine .k0 ?_ | refine .k1 ?_ | refine .k2 ?_ | refine .k3 ?_ | refine .k4 ?_ | refine .k5 ?_ | refine .k6 ?_ | refine .k7 ?_ | refine .k8 ?_ | refine .k9 ?_ | (refine .cd ?_ ?_ <;> first | with_reducible exact tF | with_reducible exact fT | (intro hc; first | exact kf hc (by assumption) | exact kt hc (by assumption) | skip)) | refine .r1 ?_ ?_ | (refine .l1 ?_; intro b) | (refine .m1 ?_ ?_; intro b) | (refine .m2 ?_ ?_; intro hlen) | (refine .m3 ?_ ?_; intro hlen) | refine .t1 ?_ ?_ ?_ | refine .t2 ?_ ?_ ?_ | refine .t3 ?_ ?_ ?_ | refine .t4 ?_ ?_ ?_ | (refine .l2 ?_; intro b) | refine .u1 ?_ ?_ ?_ (fun b u c => ?_) | refine .u2 ?_ ?_ ?_ (fun b u c => ?_) | refine .u4 ?_ ?_ (fun b u c => ?_) | refine .u5 ?_ ?_ ?_ | refine .u3 ?_ ?_ (fun hr0 => ?_) (fun hr1 b u c => ?_) | refine .an rfl (by intro hob; first | exact hS | exact hZ | exact hU | exact hD | exact hW1 | exact hW2 | exact hA | exact hB | exact hV1 (by first | omega | (simp only [BL] at *; omega)) (by first | assumption | (simpa using hc)) | exact hV2 (by first | omega | (simp only [BL] at *; omega)) (by first | assumption | (simpa using hc)) | exact hI | exact hJ | exact hK | exact hL | exact example_ok) ?_ ?_ | refine .t5 ?_ ?_ ?_ | refine .t6 ?_ ?_ ?_ | refine .t7 ?_ ?_ ?_ | refine .r2 ?_ ?_ | refine .r3 ?_ ?_ | refine .r4 ?_ ?_ | refine .r5 ?_ ?_ | (refine .l3 ?_; intro b) | refine .r6 ?_ ?_ | refine .r7 ?_ ?_ | refine .r8 ?_ ?_ | refine .r9 ?_ ?_ | refine .ra ?_ ?_ | (show List.all _ _ = true; rfl) | (show (_ : Nat) = _; rfl))
  try any_goals ((intro hob; first | (simp_all; done) | (simp only [BL] at *; first | (simp_all; done) | omega)))
  all_goals (try simp only [BL] at *)
  rotate_left
  · show Sx.Fin _ _ _ _; (refine Sx.Fin.wk (by repeat' first | exact .refl _ | refine .same ?_ | refine .cons ?_) ?_; repeat' first | exact .refl _ | exact .nil | refine .cons ?_ ?_ | refine .tup ?_ | refine .agg ?_ | exact .sl | exact .own _)
  rename_i hi2l
  refine WK_loop (fun m rg σ' => ∃ (q : Bool) (k : Nat), k ≤ (usesF c.features x).length ∧ m = (usesF c.features x).length - k ∧ (q = false → (usesF c.features x).getD i2 default ∉ dirF x ∧ ∀ j, j < k → ∀ f, findF c.features ((usesF c.features x).getD j default) = some f → (usesF c.features x).getD i2 default ∉ dirF f.body) ∧ σ' = (2, b2, Blk.cells c.cells) :: σ ∧ rg = [(2, .lp 2 b2 0), (5, strsV (usesF c.features x)), (7, strsA (dirF x)), (14, iv i2), (15, .v (.bool q)), (16, iv k)]) (usesF c.features x).length rfl ⟨_, _, by repeat' first | exact .row | exact .refl _ | exact .nil | refine .cons ?_ ?_ | refine .tup ?_ | refine .agg ?_ | exact .sl | exact .own _ | exact .tag, by repeat' first | exact .refl _ | refine .same ?_ | refine .cons ?_, _, 0, Nat.zero_le _, rfl, fun h => ⟨of_decide_eq_false h, fun j hj => absurd hj (by omega)⟩, rfl, rfl⟩ ?_
  rintro m3 _ _ ⟨q, k, hk, hm3, hq, rfl, rfl⟩
  have hK := featC_ok c ((usesF c.features x).getD k default)
  have hL := direct_nil _ (got_small hs hc0 ((usesF c.features x).getD k default)).1
  have hJ := in_ok (dirF ((findF c.features ((usesF c.features x).getD k default)).getD zfe).body) ((usesF c.features x).getD i2 default)
  repeat' (first | exact .nil | refine .k0 ?_ | refine .k1 ?_ | refine .k2 ?_ | refine .k3 ?_ | refine .k4 ?_ | refine .k5 ?_ | refine .k6 ?_ | refine .k7 ?_ | refine .k8 ?_ | refine .k9 ?_ | (refine .cd ?_ ?_ <;> first | with_reducible exact tF | with_reducible exact fT | (intro hc; first | exact kf hc (by assumption) | exact kt hc (by assumption) | skip)) | refine .r1 ?_ ?_ | (refine .l1 ?_; intro b) | (refine .m1 ?_ ?_; intro b) | (refine .m2 ?_ ?_; intro hlen) | (refine .m3 ?_ ?_; intro hlen) | refine .t1 ?_ ?_ ?_ | refine .t2 ?_ ?_ ?_ | refine .t3 ?_ ?_ ?_ | refine .t4 ?_ ?_ ?_ | (refine .l2 ?_; intro b) | refine .u1 ?_ ?_ ?_ (fun b u c => ?_) | refine .u2 ?_ ?_ ?_ (fun b u c => ?_) | refine .u4 ?_ ?_ (fun b u c => ?_) | refine .u5 ?_ ?_ ?_ | refine .u3 ?_ ?_ (fun hr0 => ?_) (fun hr1 b u c => ?_) | refine .an rfl (by intro hob; first | exact hS | exact hZ | exact hU | exact hD | exact hW1 | exact hW2 | exact hA | exact hB | exact hV1 (by first | omega | (simp only [BL] at *; omega)) (by first | assumption | (simpa using hc)) | exact hV2 (by first | omega | (simp only [BL] at *; omega)) (by first | assumption | (simpa using hc)) | exact hI | exact hJ | exact hK | exact hL | exact example_ok) ?_ ?_ | refine .t5 ?_ ?_ ?_ | refine .t6 ?_ ?_ ?_ | refine .t7 ?_ ?_ ?_ | refine .r2 ?_ ?_ | refine .r3 ?_ ?_ | refine .r4 ?_ ?_ | refine .r5 ?_ ?_ | (refine .l3 ?_; intro b) | refine .r6 ?_ ?_ | refine .r7 ?_ ?_ | refine .r8 ?_ ?_ | refine .r9 ?_ ?_ | refine .ra ?_ ?_ | (show List.all _ _ = true; rfl) | (show (_ : Nat) = _; rfl))
  try any_goals ((intro hob; first | (simp_all; done) | (simp only [BL] at *; first | (simp_all; done) | omega)))
  all_goals (try simp only [BL] at *)
  · refine ⟨(usesF c.features x).length - (k + 1), by omega, _, _, by repeat' first | exact .row | exact .refl _ | exact .nil | refine .cons ?_ ?_ | refine .tup ?_ | refine .agg ?_ | exact .sl | exact .own _ | exact .tag, by repeat' first | exact .refl _ | refine .same ?_ | refine .cons ?_, _, k + 1, by omega, rfl, fun h => ?_, rfl, by rw [up1 (n := (usesF c.features x).length) (by omega) (by assumption)]⟩
    obtain ⟨h1, h2⟩ := hq hc.2
    refine ⟨h1, fun j hj f hf => ?_⟩
    by_cases hjk : j < k
    · exact h2 j hjk f hf
    · obtain rfl : j = k := by omega
      rw [hf] at h
      simpa using h
  · exfalso
    cases q with
    | true => simp at hc
    | false =>
      obtain ⟨h1, h2⟩ := hq rfl
      have hkl : k = (usesF c.features x).length := by grind
      obtain ⟨n, f, hn, hf, hd⟩ := from_some (getD_mem (l := usesF c.features x) (i := i2) (by omega)) h1
      obtain ⟨j, hj, rfl⟩ := List.getElem_of_mem hn
      exact h2 j (by omega) f (by rw [getD_eq hj]; exact hf) hd
  · refine ⟨(usesF c.features x).length - (i2 + 1), by omega, _, _, by repeat' first | exact .row | exact .refl _ | exact .nil | refine .cons ?_ ?_ | refine .tup ?_ | refine .agg ?_ | exact .sl | exact .own _ | exact .tag, by repeat' first | exact .refl _ | refine .same ?_ | refine .cons ?_, i2 + 1, by omega, rfl, rfl, by rw [up1 (n := (usesF c.features x).length) (by omega) (by assumption)]⟩
end Go.Proofs.YtekngilbecjkhaaGreatDoor
