
/- The reference's Uses. -/
import Derived.Test.YtekngilbecjkhaaGreatDoorEa
import Derived.Test.YtekngilbecjkhaaGreatDoorCg
set_option linter.unusedSimpArgs false
set_option linter.unusedVariables false
set_option maxRecDepth 100000
set_option maxHeartbeats 4000000
namespace Go.Proofs.YtekngilbecjkhaaGreatDoor
open Go.Sx Go.Proofs Go.Tb
structure UR (fs : List Fea) (x : Ex) (F T : List Str) : Prop where
  sf : Srt F
  st : Srt T
  rf : ∀ m ∈ F, Reach fs x.feats m
  rt : ∀ m ∈ T, ReachT fs x.feats x.tabs m
  bf : ∀ m ∈ x.feats, m ∈ F
  bt : ∀ m ∈ x.tabs, m ∈ T
def UD (fs : List Fea) (now F T : List Str) : Prop := ∀ m ∈ now, ∀ f, findF fs m = some f → (∀ s ∈ f.body.feats, s ∈ F) ∧ ∀ s ∈ f.body.tabs, s ∈ T
variable {fs : List Fea} {x : Ex} {F T : List Str}
theorem UR.lenT (h : UR fs x F T) : T.length ≤ (univT fs x).length := nodup_le (srt_nodup h.st) fun m hm => reachT_univ (h.rt m hm)
theorem UR.start (fs : List Fea) (x : Ex) : UR fs x (dirL x ([], [])).1 (dirL x ([], [])).2 := by
  have hm := dirL_mem x ([], [])
  have hs := dirL_srt x ([], []) srt_nil srt_nil
  exact ⟨hs.1, hs.2, fun m h => .base (by simpa using (hm.1 m).1 h), fun m h => .inl (by simpa using (hm.2 m).1 h), fun m h => (hm.1 m).2 (.inl h), fun m h => (hm.2 m).2 (.inl h)⟩
theorem UR.step {n : Str} {f : Fea} (h : UR fs x F T) (hn : n ∈ F) (hf : findF fs n = some f) : UR fs x (dirL f.body (F, T)).1 (dirL f.body (F, T)).2 := by
  have hm := dirL_mem f.body (F, T)
  have hs := dirL_srt f.body (F, T) h.sf h.st
  refine ⟨hs.1, hs.2, fun m k => ?_, fun m k => ?_, fun m k => (hm.1 m).2 (.inr (h.bf m k)), fun m k => (hm.2 m).2 (.inr (h.bt m k))⟩
  · rcases (hm.1 m).1 k with k | k
    · exact .step (h.rf n hn) hf k
    · exact h.rf m k
  · rcases (hm.2 m).1 k with k | k
    · exact .inr ⟨n, f, h.rf n hn, hf, k⟩
    · exact h.rt m k
structure UI (fs : List Fea) (x : Ex) (now : List Str) (i : Nat) (F T : List Str) : Prop where
  u : UR fs x F T
  s : ∀ m ∈ now, m ∈ F
  d : UD fs (now.take i) F T
theorem UI.no {now : List Str} {i : Nat} (h : UI fs x now i F T) (hi : i < now.length) (hf : findF fs (now.getD i default) = none) : UI fs x now (i + 1) F T := by
  refine ⟨h.u, h.s, fun m hm f hmf => ?_⟩
  rw [List.take_succ_eq_append_getElem hi, List.mem_append, List.mem_singleton] at hm
  rcases hm with hm | rfl
  · exact h.d m hm f hmf
  · rw [getD_eq hi] at hf; rw [hf] at hmf; cases hmf
def UO (fs : List Fea) (x : Ex) (n : Int) (F T : List Str) : Prop := UR fs x F T ∧ (n = -1 ∨ ∃ now : List Str, Srt now ∧ n = now.length ∧ (∀ m ∈ now, m ∈ F) ∧ UD fs now F T)
theorem UO.done {n : Int} (h : UO fs x n F T) (hn : n = F.length) : usesF fs x = F ∧ usesT fs x = T := by
  obtain ⟨hu, hn'⟩ := h
  obtain ⟨now, h1, h2, h3, h4⟩ : ∃ now : List Str, Srt now ∧ n = now.length ∧ (∀ m ∈ now, m ∈ F) ∧ UD fs now F T := by
    rcases hn' with h | h
    · omega
    · exact h
  have he : now = F := srt_len h1 hu.sf h3 (by omega)
  subst he
  obtain ⟨k1, k2⟩ := reach_of_closed hu.bf hu.bt hu.rf hu.rt h4
  exact ⟨srtOf_eq hu.sf k1, srtOf_eq hu.st k2⟩
theorem UO.lt {n : Int} (h : UO fs x n F T) (hn : n ≠ F.length) : n < F.length := by
  obtain ⟨hu, rfl | ⟨now, h1, h2, h3, h4⟩⟩ := h
  · omega
  · have := nodup_le (srt_nodup h1) h3; omega
theorem UI.out {now : List Str} (hs : Srt now) (h : UI fs x now now.length F T) : UO fs x now.length F T :=
  ⟨h.u, .inr ⟨now, hs, rfl, h.s, by have := h.d; rwa [List.take_length] at this⟩⟩
abbrev nilA : AV := .v (.slice none 0 0)
end Go.Proofs.YtekngilbecjkhaaGreatDoor
