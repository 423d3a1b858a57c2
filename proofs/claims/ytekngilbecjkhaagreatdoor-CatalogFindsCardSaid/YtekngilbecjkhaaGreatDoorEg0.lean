
/- What is small. -/
import Derived.Test.YtekngilbecjkhaaGreatDoorEd
import Derived.Test.YtekngilbecjkhaaGreatDoorEf
set_option linter.unusedSimpArgs false
set_option linter.unusedVariables false
set_option maxRecDepth 100000
set_option maxHeartbeats 4000000
namespace Go.Proofs.YtekngilbecjkhaaGreatDoor
open Go.Sx Go.Proofs Go.Tb
theorem sizeL_app : ∀ (a b : List Ex), Ex.sizeL (a ++ b) = Ex.sizeL a + Ex.sizeL b
  | [], b => by rw [List.nil_append, Ex.sizeL]; omega
  | x :: a, b => by rw [List.cons_append, Ex.sizeL, Ex.sizeL, sizeL_app a b]; omega
theorem flat_size : ∀ fs : List Fea, (fs.flatMap fun f => f.body.feats).length ≤ Ex.sizeL (fs.map Fea.body) ∧ (fs.flatMap fun f => f.body.tabs).length ≤ Ex.sizeL (fs.map Fea.body)
  | [] => by simp
  | f :: fs => by
    have h1 := flat_size fs
    have h2 := feats_size f.body
    simp only [List.flatMap_cons, List.length_append, List.map_cons, Ex.sizeL]
    omega
theorem mem_size {fs : List Fea} {f : Fea} (h : f ∈ fs) : f.body.size ≤ Ex.sizeL (fs.map Fea.body) := by
  obtain ⟨a, b, rfl⟩ := List.append_of_mem h
  rw [List.map_append, sizeL_app, List.map_cons, Ex.sizeL]; omega
theorem Small.size {c : Cat} (h : Small c) : Ex.sizeL (c.features.map Fea.body) ≤ 2000 := by
  have h1 := h.n
  have h2 := szL_size _ _ _ h1
  rw [h2] at h1
  unfold Cat.all at h1
  rw [List.map_append, List.map_append, sizeL_app, sizeL_app] at h1
  omega
mutual
theorem wt_feats : ∀ (x : Ex) (s : Str), (s ∈ x.feats ∨ s ∈ x.tabs) → s.size ≤ x.wt
  | .mk k o n t v _ _ _ ks, s, h => by
    have ih := wt_featsL ks s
    rw [Ex.wt]
    rw [Ex.feats, Ex.tabs, List.mem_append, List.mem_append] at h
    have e1 : s ∈ (if k = 3 ∨ k = 4 then [n] else []) → s = n := fun h => by split at h <;> simp_all
    have e2 : s ∈ (if k = 5 then [t] else []) → s = t := fun h => by split at h <;> simp_all
    rcases h with (h | h) | (h | h)
    · obtain rfl := e1 h; omega
    · have := ih (.inl h); omega
    · obtain rfl := e2 h; omega
    · have := ih (.inr h); omega
theorem wt_featsL : ∀ (l : List Ex) (s : Str), (s ∈ Ex.featsL l ∨ s ∈ Ex.tabsL l) → s.size ≤ Ex.wtL l
  | [], s, h => by simp [Ex.featsL, Ex.tabsL] at h
  | x :: l, s, h => by
    have h1 := wt_feats x s
    have h2 := wt_featsL l s
    rw [Ex.featsL, Ex.tabsL, List.mem_append, List.mem_append] at h
    rw [Ex.wtL]
    rcases h with (h | h) | (h | h)
    · have := h1 (.inl h); omega
    · have := h2 (.inl h); omega
    · have := h1 (.inr h); omega
    · have := h2 (.inr h); omega
end
structure Cat.Fits (c : Cat) : Prop where
  n : ∀ f ∈ c.features, f.name.size ≤ 2 ^ 60
  b : ∀ f ∈ c.features, f.body.wt ≤ 2 ^ 60
theorem univ_size {c : Cat} {x : Ex} (hc : c.Fits) (hx : x.wt ≤ 2 ^ 60) : (∀ s ∈ univ c.features x.feats, s.size ≤ maxLen) ∧ ∀ s ∈ univT c.features x, s.size ≤ maxLen := by
  have hm : (2 : Nat) ^ 60 ≤ maxLen := by unfold maxLen; decide
  refine ⟨fun s h => ?_, fun s h => ?_⟩
  · unfold univ at h
    rcases List.mem_append.1 h with h | h
    · have := wt_feats x s (.inl h); omega
    · obtain ⟨f, hf, h⟩ := List.mem_flatMap.1 h
      have := wt_feats _ s (.inl h); have := hc.b f hf; omega
  · unfold univT at h
    rcases List.mem_append.1 h with h | h
    · have := wt_feats x s (.inr h); omega
    · obtain ⟨f, hf, h⟩ := List.mem_flatMap.1 h
      have := wt_feats _ s (.inr h); have := hc.b f hf; omega
theorem univ_few {c : Cat} {x : Ex} (hs : Small c) (hx : x.size ≤ 5000) : (univ c.features x.feats).length ≤ 7000 ∧ (univT c.features x).length ≤ 7000 := by
  have h1 := flat_size c.features
  have h2 := hs.size
  have h3 := feats_size x
  unfold univ univT
  rw [List.length_append, List.length_append]; omega
theorem usmall {c : Cat} {x : Ex} (hs : Small c) (hc : c.Fits) (hz : x.size ≤ 5000) (hx : x.wt ≤ 2 ^ 60) : USmall c.features x :=
  ⟨Nat.le_trans (univ_few hs hz).1 (by decide), Nat.le_trans (univ_few hs hz).2 (by decide), (univ_size hc hx).1, (univ_size hc hx).2⟩
theorem body_size {c : Cat} (hs : Small c) {f : Fea} (hf : f ∈ c.features) : f.body.size ≤ 2000 := Nat.le_trans (mem_size hf) hs.size
theorem cfit {c : Cat} (hs : Small c) (hc : c.Fits) : CFit c.features := by
  have hm : (2 : Nat) ^ 60 ≤ maxLen := by unfold maxLen; decide
  refine ⟨fun f hf => ?_, fun f hf => Nat.le_trans (hc.n f hf) hm, by have := hs.f; omega⟩
  have h1 := body_size hs hf
  have h2 := feats_size f.body
  have h3 := hc.b f hf
  exact ⟨by omega, by omega, fun s h => by have := wt_feats _ s (.inl h); omega, fun s h => by have := wt_feats _ s (.inr h); omega⟩
theorem small_t {c : Cat} (h : Small c) : Pure Tryz.prog 10 [.agg c.cells] (.v (.bool true)) := by have := small_ok c; rwa [decide_eq_true h] at this
theorem small_f {c : Cat} (h : ¬ Small c) : Pure Tryz.prog 10 [.agg c.cells] (.v (.bool false)) := by have := small_ok c; rwa [decide_eq_false h] at this
theorem same_t (l : List Str) : Pure Tryz.prog 17 [strsA l, strsA l] (.v (.bool true)) := by have := sameNames_ok l l; rwa [decide_eq_true rfl] at this
end Go.Proofs.YtekngilbecjkhaaGreatDoor
