
/- The reference's Uses. -/
import Derived.Test.YtekngilbecjkhaaGreatDoorEa
import Derived.Test.YtekngilbecjkhaaGreatDoorCg
set_option linter.unusedSimpArgs false
set_option linter.unusedVariables false
set_option maxRecDepth 100000
set_option maxHeartbeats 4000000
namespace Go.Proofs.YtekngilbecjkhaaGreatDoor
open Go.Sx Go.Proofs Go.Tb
/-- Not too many names come up. -/
structure UFit (fs : List Fea) (x : Ex) : Prop where
  f : (univ fs x.feats).length ≤ 500000
  t : (univT fs x).length ≤ 500000
theorem feats_univ {fs : List Fea} {x : Ex} {n : Str} {f : Fea} (h : findF fs n = some f) : f.body.feats.length ≤ (univ fs x.feats).length := by
  have h1 := (List.sublist_flatten_of_mem (List.mem_map_of_mem (f := fun f : Fea => f.body.feats) (findF_mem h).1)).length_le
  unfold univ
  rw [List.length_append, List.flatMap_def]; omega
/-- The lists as they grow. -/
structure UR (fs : List Fea) (x : Ex) (F T : List Str) : Prop where
  sf : Srt F
  st : Srt T
  rf : ∀ m ∈ F, Reach fs x.feats m
  rt : ∀ m ∈ T, ReachT fs x.feats x.tabs m
  bf : ∀ m ∈ x.feats, m ∈ F
  bt : ∀ m ∈ x.tabs, m ∈ T
def UD (fs : List Fea) (now F T : List Str) : Prop := ∀ m ∈ now, ∀ f, findF fs m = some f → (∀ s ∈ f.body.feats, s ∈ F) ∧ ∀ s ∈ f.body.tabs, s ∈ T
variable {fs : List Fea} {x : Ex} {F T : List Str}
theorem UR.lenF (h : UR fs x F T) : F.length ≤ (univ fs x.feats).length := srt_univ h.sf h.rf
theorem UR.lenT (h : UR fs x F T) : T.length ≤ (univT fs x).length := nodup_le (srt_nodup h.st) fun m hm => reachT_univ (h.rt m hm)
theorem UR.start (fs : List Fea) (x : Ex) : UR fs x (dirL x ([], [])).1 (dirL x ([], [])).2 := by
  have hm := dirL_mem x ([], [])
  have hs := dirL_srt x ([], []) srt_nil srt_nil
  exact ⟨hs.1, hs.2, fun m h => .base (by simpa using (hm.1 m).1 h), fun m h => .inl (by simpa using (hm.2 m).1 h), fun m h => (hm.1 m).2 (.inl h), fun m h => (hm.2 m).2 (.inl h)⟩
theorem UR.step {n : Str} {f : Fea} (h : UR fs x F T) (hn : n ∈ F) (hf : findF fs n = some f) : UR fs x (dirL f.body (F, T)).1 (dirL f.body (F, T)).2 := by
  have hm := dirL_mem f.body (F, T)
  have hs := dirL_srt f.body (F, T) h.sf h.st
  refine ⟨hs.1, hs.2, fun m k => ?_, fun m k => ?_, fun m k => (hm.1 m).2 (.inr (h.bf m k)), fun m k => (hm.2 m).2 (.inr (h.bt m k))⟩
  · rcases (hm.1 m).1 k with k | k
    · exact .step (h.rf n hn) hf k
    · exact h.rf m k
  · rcases (hm.2 m).1 k with k | k
    · exact .inr ⟨n, f, h.rf n hn, hf, k⟩
    · exact h.rt m k
/-- Inside a round: what was there is there, and what the first i names use. -/
structure UI (fs : List Fea) (x : Ex) (now : List Str) (i : Nat) (F T : List Str) : Prop where
  u : UR fs x F T
  s : ∀ m ∈ now, m ∈ F
  d : UD fs (now.take i) F T
theorem UI.begin (h : UR fs x F T) : UI fs x F 0 F T := ⟨h, fun m h => h, fun m h => by simp at h⟩
theorem UI.no {now : List Str} {i : Nat} (h : UI fs x now i F T) (hi : i < now.length) (hf : findF fs (now.getD i default) = none) : UI fs x now (i + 1) F T := by
  refine ⟨h.u, h.s, fun m hm f hmf => ?_⟩
  rw [List.take_succ_eq_append_getElem hi, List.mem_append, List.mem_singleton] at hm
  rcases hm with hm | rfl
  · exact h.d m hm f hmf
  · rw [getD_eq hi] at hf; rw [hf] at hmf; cases hmf
theorem UI.yes {now : List Str} {i : Nat} {f : Fea} (h : UI fs x now i F T) (hi : i < now.length) (hf : findF fs (now.getD i default) = some f) : UI fs x now (i + 1) (dirL f.body (F, T)).1 (dirL f.body (F, T)).2 := by
  have hm := dirL_mem f.body (F, T)
  refine ⟨h.u.step (h.s _ (getD_mem hi)) hf, fun m k => (hm.1 m).2 (.inr (h.s m k)), fun m k g hg => ?_⟩
  rw [List.take_succ_eq_append_getElem hi, List.mem_append, List.mem_singleton] at k
  rcases k with k | rfl
  · exact ⟨fun s hs => (hm.1 s).2 (.inr ((h.d m k g hg).1 s hs)), fun s hs => (hm.2 s).2 (.inr ((h.d m k g hg).2 s hs))⟩
  · rw [getD_eq hi] at hf; rw [hf] at hg; cases hg
    exact ⟨fun s hs => (hm.1 s).2 (.inl hs), fun s hs => (hm.2 s).2 (.inl hs)⟩
/-- Between rounds. -/
def UO (fs : List Fea) (x : Ex) (n : Int) (F T : List Str) : Prop := UR fs x F T ∧ (n = -1 ∨ ∃ now : List Str, Srt now ∧ n = now.length ∧ (∀ m ∈ now, m ∈ F) ∧ UD fs now F T)
theorem UO.done {n : Int} (h : UO fs x n F T) (hn : n = F.length) : usesF fs x = F ∧ usesT fs x = T := by
  obtain ⟨hu, hn'⟩ := h
  obtain ⟨now, h1, h2, h3, h4⟩ : ∃ now : List Str, Srt now ∧ n = now.length ∧ (∀ m ∈ now, m ∈ F) ∧ UD fs now F T := by
    rcases hn' with h | h
    · omega
    · exact h
  have he : now = F := srt_len h1 hu.sf h3 (by omega)
  subst he
  obtain ⟨k1, k2⟩ := reach_of_closed hu.bf hu.bt hu.rf hu.rt h4
  exact ⟨srtOf_eq hu.sf k1, srtOf_eq hu.st k2⟩
theorem UO.lt {n : Int} (h : UO fs x n F T) (hn : n ≠ F.length) : n < F.length := by
  obtain ⟨hu, rfl | ⟨now, h1, h2, h3, h4⟩⟩ := h
  · omega
  · have := nodup_le (srt_nodup h1) h3; omega
theorem UI.out {now : List Str} (hs : Srt now) (h : UI fs x now now.length F T) : UO fs x now.length F T :=
  ⟨h.u, .inr ⟨now, hs, rfl, h.s, by have := h.d; rwa [List.take_length] at this⟩⟩
abbrev nilA : AV := .v (.slice none 0 0)
theorem dirR_nil (x : Ex) (h1 : x.feats.length ≤ 1000000) (h2 : x.tabs.length ≤ 1000000) : Pure Tryz.prog 22 [.agg x.row, nilA, nilA] (.tup [strsA (dirF x), strsA (dirT x)]) :=
  (dirR_ok x [] [] (by simpa using h1) (by simpa using h2)).wk (.cons (Wk.refl _) (.cons .nil (.cons .nil .nil)))
theorem uses12_ok (c : Cat) (x : Ex) (h : UFit c.features x) : Pure Tryz.prog 16 [.agg c.cells, .agg x.row] (.tup [strsA (usesF c.features x), strsA (usesT c.features x)]) := by
  have h1 := h.f
  have h2 := h.t
  have h3 : x.feats.length ≤ (univ c.features x.feats).length := by unfold univ; rw [List.length_append]; omega
  have h4 : x.tabs.length ≤ (univT c.features x).length := by unfold univT; rw [List.length_append]; omega
  have hD := dirR_nil x (by omega) (by omega)
  refine Pure.runk (fun _ => 0) Tryz.func16 comp16 era16 (Nat.le_of_ble_eq_true rfl) fun σ => ?_
  repeat' (first | exact .nil | refine .k0 ?_ | refine .k1 ?_ | refine .k2 ?_ | refine .k3 ?_ | refine .k4 ?_ | refine .k5 ?_ | refine .k6 ?_ | refine .k7 ?_ | refine .k8 ?_ | refine .k9 ?_ | (refine .cd ?_ ?_ <;> first | with_reducible exact tF | with_reducible exact fT | (intro hc; first | exact kf hc (by assumption) | exact kt hc (by assumption) | skip)) | refine .r1 ?_ ?_ | (refine .l1 ?_; intro b) | (refine .m1 ?_ ?_; intro b) | (refine .m2 ?_ ?_; intro hlen) | (refine .m3 ?_ ?_; intro hlen) | refine .t1 ?_ ?_ ?_ | refine .t2 ?_ ?_ ?_ | refine .t3 ?_ ?_ ?_ | refine .t4 ?_ ?_ ?_ | (refine .l2 ?_; intro b) | refine .u1 ?_ ?_ ?_ (fun b u c => ?_) | refine .u2 ?_ ?_ ?_ (fun b u c => ?_) | refine .u4 ?_ ?_ (fun b u c => ?_) | refine .u5 ?_ ?_ ?_ | refine .u3 ?_ ?_ (fun hr0 => ?_) (fun hr1 b u c => ?_) | refine .an rfl (by intro hob; first | exact hD | exact hA | exact hB) ?_ ?_ | refine .t5 ?_ ?_ ?_ | refine .t6 ?_ ?_ ?_ | refine .t7 ?_ ?_ ?_ | refine .r2 ?_ ?_ | refine .r3 ?_ ?_ | refine .r4 ?_ ?_ | refine .r5 ?_ ?_ | (refine .l3 ?_; intro b) | refine .r6 ?_ ?_ | refine .r7 ?_ ?_ | refine .r8 ?_ ?_ | refine .r9 ?_ ?_ | refine .ra ?_ ?_ | (show List.all _ _ = true; rfl) | (show (_ : Nat) = _; rfl))
  try any_goals ((intro hob; first | (simp_all; done) | (simp only [BL] at *; first | (simp_all; done) | omega)))
  all_goals (try simp only [BL] at *)
  rename_i b2
  refine WK_loop (fun m rg σ' => ∃ (n : Int) (F T : List Str), UO c.features x n F T ∧ -1 ≤ n ∧ m = (500001 - n).toNat ∧ σ' = (2, b2, Blk.cells c.cells) :: σ ∧ rg = [(2, .lp 2 b2 0), (6, strsA F), (7, strsA T), (8, iv n)]) _ rfl ⟨_, _, by repeat' first | exact .row | exact .refl _ | exact .nil | refine .cons ?_ ?_ | refine .tup ?_ | refine .agg ?_ | exact .sl | exact .own _ | exact .tag, by repeat' first | exact .refl _ | refine .same ?_ | refine .cons ?_, -1, _, _, ⟨UR.start _ _, .inl rfl⟩, by omega, rfl, rfl, rfl⟩ ?_
  rintro m _ _ ⟨n, F, T, hu, hn1, hm, rfl, rfl⟩
  have hlF := hu.1.lenF
  repeat' (first | exact .nil | refine .k0 ?_ | refine .k1 ?_ | refine .k2 ?_ | refine .k3 ?_ | refine .k4 ?_ | refine .k5 ?_ | refine .k6 ?_ | refine .k7 ?_ | refine .k8 ?_ | refine .k9 ?_ | (refine .cd ?_ ?_ <;> first | with_reducible exact tF | with_reducible exact fT | (intro hc; first | exact kf hc (by assumption) | exact kt hc (by assumption) | skip)) | refine .r1 ?_ ?_ | (refine .l1 ?_; intro b) | (refine .m1 ?_ ?_; intro b) | (refine .m2 ?_ ?_; intro hlen) | (refine .m3 ?_ ?_; intro hlen) | refine .t1 ?_ ?_ ?_ | refine .t2 ?_ ?_ ?_ | refine .t3 ?_ ?_ ?_ | refine .t4 ?_ ?_ ?_ | (refine .l2 ?_; intro b) | refine .u1 ?_ ?_ ?_ (fun b u c => ?_) | refine .u2 ?_ ?_ ?_ (fun b u c => ?_) | refine .u4 ?_ ?_ (fun b u c => ?_) | refine .u5 ?_ ?_ ?_ | refine .u3 ?_ ?_ (fun hr0 => ?_) (fun hr1 b u c => ?_) | refine .an rfl (by intro hob; first | exact hD | exact hA | exact hB) ?_ ?_ | refine .t5 ?_ ?_ ?_ | refine .t6 ?_ ?_ ?_ | refine .t7 ?_ ?_ ?_ | refine .r2 ?_ ?_ | refine .r3 ?_ ?_ | refine .r4 ?_ ?_ | refine .r5 ?_ ?_ | (refine .l3 ?_; intro b) | refine .r6 ?_ ?_ | refine .r7 ?_ ?_ | refine .r8 ?_ ?_ | refine .r9 ?_ ?_ | refine .ra ?_ ?_ | (show List.all _ _ = true; rfl) | (show (_ : Nat) = _; rfl))
  try any_goals ((intro hob; first | (simp_all; done) | (simp only [BL] at *; first | (simp_all; done) | omega)))
  all_goals (try simp only [BL] at *)
  · have hlt := hu.lt hc
    refine WK_loop (fun k rg σ' => ∃ (i : Nat) (F' T' : List Str), UI c.features x F i F' T' ∧ i ≤ F.length ∧ k = F.length - i ∧ σ' = (2, b2, Blk.cells c.cells) :: σ ∧ rg = [(2, .lp 2 b2 0), (6, strsA F'), (7, strsA T'), (8, iv F.length), (9, strsA F), (10, iv i)]) F.length rfl ⟨_, _, by repeat' first | exact .row | exact .refl _ | exact .nil | refine .cons ?_ ?_ | refine .tup ?_ | refine .agg ?_ | exact .sl | exact .own _ | exact .tag, by repeat' first | exact .refl _ | refine .same ?_ | refine .cons ?_, 0, _, _, .begin hu.1, Nat.zero_le _, rfl, rfl, rfl⟩ ?_
    rintro k _ _ ⟨i, F', T', hi, hle, hk, rfl, rfl⟩
    rcases hf : findF c.features (F.getD i default) with _ | f
    · have hA := feature12_none c _ hf
      repeat' (first | exact .nil | refine .k0 ?_ | refine .k1 ?_ | refine .k2 ?_ | refine .k3 ?_ | refine .k4 ?_ | refine .k5 ?_ | refine .k6 ?_ | refine .k7 ?_ | refine .k8 ?_ | refine .k9 ?_ | (refine .cd ?_ ?_ <;> first | with_reducible exact tF | with_reducible exact fT | (intro hc; first | exact kf hc (by assumption) | exact kt hc (by assumption) | skip)) | refine .r1 ?_ ?_ | (refine .l1 ?_; intro b) | (refine .m1 ?_ ?_; intro b) | (refine .m2 ?_ ?_; intro hlen) | (refine .m3 ?_ ?_; intro hlen) | refine .t1 ?_ ?_ ?_ | refine .t2 ?_ ?_ ?_ | refine .t3 ?_ ?_ ?_ | refine .t4 ?_ ?_ ?_ | (refine .l2 ?_; intro b) | refine .u1 ?_ ?_ ?_ (fun b u c => ?_) | refine .u2 ?_ ?_ ?_ (fun b u c => ?_) | refine .u4 ?_ ?_ (fun b u c => ?_) | refine .u5 ?_ ?_ ?_ | refine .u3 ?_ ?_ (fun hr0 => ?_) (fun hr1 b u c => ?_) | refine .an rfl (by intro hob; first | exact hD | exact hA | exact hB) ?_ ?_ | refine .t5 ?_ ?_ ?_ | refine .t6 ?_ ?_ ?_ | refine .t7 ?_ ?_ ?_ | refine .r2 ?_ ?_ | refine .r3 ?_ ?_ | refine .r4 ?_ ?_ | refine .r5 ?_ ?_ | (refine .l3 ?_; intro b) | refine .r6 ?_ ?_ | refine .r7 ?_ ?_ | refine .r8 ?_ ?_ | refine .r9 ?_ ?_ | refine .ra ?_ ?_ | (show List.all _ _ = true; rfl) | (show (_ : Nat) = _; rfl))
      try any_goals ((intro hob; first | (simp_all; done) | (simp only [BL] at *; first | (simp_all; done) | omega)))
      all_goals (try simp only [BL] at *)
      all_goals first
        | (intro _; first | omega | (simp at hc; omega))
        | (refine ⟨F.length - (i + 1), by first | omega | (simp at hc; omega), _, _, by repeat' first | exact .row | exact .refl _ | exact .nil | refine .cons ?_ ?_ | refine .tup ?_ | refine .agg ?_ | exact .sl | exact .own _ | exact .tag, by repeat' first | exact .refl _ | refine .same ?_ | refine .cons ?_, i + 1, _, _, hi.no (by first | omega | (simp at hc; omega)) hf, by first | omega | (simp at hc; omega), rfl, rfl, by rw [up1 (n := F.length) (by first | omega | (simp at hc; omega)) (by assumption)]⟩)
        | (obtain rfl : i = F.length := (by first | omega | (simp at hc; omega))
           refine ⟨(500001 - (F.length : Int)).toNat, by omega, _, _, by repeat' first | exact .row | exact .refl _ | exact .nil | refine .cons ?_ ?_ | refine .tup ?_ | refine .agg ?_ | exact .sl | exact .own _ | exact .tag, by repeat' first | exact .refl _ | refine .same ?_ | refine .cons ?_, F.length, _, _, hi.out hu.1.sf, by omega, rfl, rfl, rfl⟩)
    · have hA := feature12_some c _ f hf
      have hB := dirR_ok f.body F' T' (by have := hi.u.lenF; have := feats_univ (x := x) hf; omega) (by have := hi.u.lenT; have := tabs_len (x := x) hf; omega)
      repeat' (first | exact .nil | refine .k0 ?_ | refine .k1 ?_ | refine .k2 ?_ | refine .k3 ?_ | refine .k4 ?_ | refine .k5 ?_ | refine .k6 ?_ | refine .k7 ?_ | refine .k8 ?_ | refine .k9 ?_ | (refine .cd ?_ ?_ <;> first | with_reducible exact tF | with_reducible exact fT | (intro hc; first | exact kf hc (by assumption) | exact kt hc (by assumption) | skip)) | refine .r1 ?_ ?_ | (refine .l1 ?_; intro b) | (refine .m1 ?_ ?_; intro b) | (refine .m2 ?_ ?_; intro hlen) | (refine .m3 ?_ ?_; intro hlen) | refine .t1 ?_ ?_ ?_ | refine .t2 ?_ ?_ ?_ | refine .t3 ?_ ?_ ?_ | refine .t4 ?_ ?_ ?_ | (refine .l2 ?_; intro b) | refine .u1 ?_ ?_ ?_ (fun b u c => ?_) | refine .u2 ?_ ?_ ?_ (fun b u c => ?_) | refine .u4 ?_ ?_ (fun b u c => ?_) | refine .u5 ?_ ?_ ?_ | refine .u3 ?_ ?_ (fun hr0 => ?_) (fun hr1 b u c => ?_) | refine .an rfl (by intro hob; first | exact hD | exact hA | exact hB) ?_ ?_ | refine .t5 ?_ ?_ ?_ | refine .t6 ?_ ?_ ?_ | refine .t7 ?_ ?_ ?_ | refine .r2 ?_ ?_ | refine .r3 ?_ ?_ | refine .r4 ?_ ?_ | refine .r5 ?_ ?_ | (refine .l3 ?_; intro b) | refine .r6 ?_ ?_ | refine .r7 ?_ ?_ | refine .r8 ?_ ?_ | refine .r9 ?_ ?_ | refine .ra ?_ ?_ | (show List.all _ _ = true; rfl) | (show (_ : Nat) = _; rfl))
      try any_goals ((intro hob; first | (simp_all; done) | (simp only [BL] at *; first | (simp_all; done) | omega)))
      all_goals (try simp only [BL] at *)
      all_goals first
        | (intro _; first | omega | (simp at hc; omega))
        | (refine ⟨F.length - (i + 1), by first | omega | (simp at hc; omega), _, _, by repeat' first | exact .row | exact .refl _ | exact .nil | refine .cons ?_ ?_ | refine .tup ?_ | refine .agg ?_ | exact .sl | exact .own _ | exact .tag, by repeat' first | exact .refl _ | refine .same ?_ | refine .cons ?_, i + 1, _, _, hi.yes (by first | omega | (simp at hc; omega)) hf, by first | omega | (simp at hc; omega), rfl, rfl, by rw [up1 (n := F.length) (by first | omega | (simp at hc; omega)) (by assumption)]⟩)
        | (obtain rfl : i = F.length := (by first | omega | (simp at hc; omega))
           refine ⟨(500001 - (F.length : Int)).toNat, by omega, _, _, by repeat' first | exact .row | exact .refl _ | exact .nil | refine .cons ?_ ?_ | refine .tup ?_ | refine .agg ?_ | exact .sl | exact .own _ | exact .tag, by repeat' first | exact .refl _ | refine .same ?_ | refine .cons ?_, F.length, _, _, hi.out hu.1.sf, by omega, rfl, rfl, rfl⟩)
  · obtain ⟨e1, e2⟩ := hu.done (by omega)
    rw [e1, e2]
    (refine Sx.Fin.wk (by repeat' first | exact .refl _ | refine .same ?_ | refine .cons ?_) ?_; repeat' first | exact .refl _ | exact .nil | refine .cons ?_ ?_ | refine .tup ?_ | refine .agg ?_ | exact .sl | exact .own _)
end Go.Proofs.YtekngilbecjkhaaGreatDoor
