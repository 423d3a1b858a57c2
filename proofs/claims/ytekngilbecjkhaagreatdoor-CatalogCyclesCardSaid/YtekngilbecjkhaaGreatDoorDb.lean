
/- What a feature in force directly uses; the order; the cycle of a catalog. -/
import Derived.Test.YtekngilbecjkhaaGreatDoorDa
set_option linter.unusedSimpArgs false
set_option linter.unusedVariables false
namespace Go.Proofs.YtekngilbecjkhaaGreatDoor
open Go.Sx Go.Proofs Go.Tb
def inF (fs : List Fea) (n : Str) : Bool := (findF fs n).isSome
theorem inF_iff {fs : List Fea} {n : Str} : inF fs n = true ↔ ∃ f ∈ fs, f.name = n := by
  unfold inF findF
  rw [List.find?_isSome]
  simp
def putF : List Fea → List Str → List Str
  | [], l => l
  | f :: fs, l => putF fs (putL l f.name)
theorem putF_mem {x : Str} : ∀ {fs : List Fea} {l : List Str}, x ∈ putF fs l ↔ (∃ f ∈ fs, f.name = x) ∨ x ∈ l
  | [], l => by simp [putF]
  | f :: fs, l => by
    rw [putF, putF_mem (fs := fs), putL_mem]
    simp only [List.mem_cons, exists_eq_or_imp]
    grind
theorem putF_srt : ∀ {fs : List Fea} {l : List Str}, Srt l → Srt (putF fs l)
  | [], _, h => h
  | _ :: fs, _, h => putF_srt (fs := fs) (putL_srt h)
theorem srt_nil : Srt [] := List.Pairwise.nil
/-- The names of the features in force. -/
def namesF (fs : List Fea) : List Str := putF fs []
theorem namesF_srt (fs : List Fea) : Srt (namesF fs) := putF_srt srt_nil
theorem namesF_mem {fs : List Fea} {n : Str} : n ∈ namesF fs ↔ inF fs n = true := by
  rw [inF_iff]; unfold namesF; rw [putF_mem]; simp
theorem putF_len : ∀ (fs : List Fea) (l : List Str), (putF fs l).length ≤ l.length + fs.length
  | [], l => Nat.le_refl _
  | f :: fs, l => by
    have h1 := putF_len fs (putL l f.name)
    have h2 : ∀ (l : List Str) (s : Str), (putL l s).length ≤ l.length + 1 := fun l s => by
      induction l with
      | nil => simp [putL]
      | cons a l ih =>
        unfold putL
        split
        · simp only [List.length_cons]; omega
        · split
          · simp
          · simp
    have h3 := h2 l f.name
    rw [putF, List.length_cons]; omega
theorem namesF_len (fs : List Fea) : (namesF fs).length ≤ fs.length := by have := putF_len fs []; simpa [namesF] using this
/-- What an expression directly uses, sorted. -/
def dirF (x : Ex) : List Str := (dirL x ([], [])).1
def dirT (x : Ex) : List Str := (dirL x ([], [])).2
theorem dirF_mem {x : Ex} {s : Str} : s ∈ dirF x ↔ s ∈ x.feats := by rw [dirF, (dirL_mem x ([], [])).1]; simp
theorem dirF_srt (x : Ex) : Srt (dirF x) := (dirL_srt x ([], []) srt_nil srt_nil).1
/-- What a feature directly uses, of the features in force. -/
def deps (fs : List Fea) (n : Str) : List Str := match findF fs n with
  | some f => (dirF f.body).filter (inF fs)
  | none => []
theorem srt_filter {l : List Str} {p : Str → Bool} (h : Srt l) : Srt (l.filter p) := List.Pairwise.filter _ h
theorem deps_srt (fs : List Fea) (n : Str) : Srt (deps fs n) := by
  unfold deps; split
  · exact srt_filter (dirF_srt _)
  · exact srt_nil
theorem deps_mem {fs : List Fea} {n m : Str} : m ∈ deps fs n ↔ ∃ f, findF fs n = some f ∧ m ∈ f.body.feats ∧ inF fs m = true := by
  unfold deps
  split
  · rename_i f h
    rw [List.mem_filter, dirF_mem]
    constructor
    · intro h1; exact ⟨f, h, h1⟩
    · rintro ⟨f', h1, h2⟩; rw [h] at h1; cases h1; exact h2
  · rename_i h
    constructor
    · intro h1; cases h1
    · rintro ⟨f', h1, h2⟩; rw [h] at h1; cases h1
theorem deps_to {fs : List Fea} {n m : Str} (h : m ∈ deps fs n) : m ∈ namesF fs := by
  obtain ⟨_, _, _, h⟩ := deps_mem.1 h; exact namesF_mem.2 h
theorem deps_of {fs : List Fea} {n m : Str} (h : m ∈ deps fs n) : n ∈ namesF fs := by
  obtain ⟨_, h, _⟩ := deps_mem.1 h; exact namesF_mem.2 (by unfold inF; rw [h]; rfl)
/-! The order. -/
def ready (g : Str → List Str) (out : List Str) (n : Str) : Bool := decide (n ∉ out) && (g n).all fun m => decide (m ∈ out)
def ordNext (g : Str → List Str) (N out : List Str) : Option Str := N.find? (ready g out)
def ordL (g : Str → List Str) (N : List Str) : Nat → List Str → List Str
  | 0, out => out
  | k + 1, out => match ordNext g N out with
    | some n => ordL g N k (out ++ [n])
    | none => out
def orderL (g : Str → List Str) (N : List Str) : List Str := ordL g N N.length []
/-- What holds while the order grows. -/
structure OInv (g : Str → List Str) (N out : List Str) : Prop where
  d : out.Nodup
  s : ∀ x ∈ out, x ∈ N
  e : orderL g N = ordL g N (N.length - out.length) out
  b : ∀ i (hi : i < out.length), ∀ m ∈ g out[i], m ∈ out.take i
theorem OInv.start (g : Str → List Str) (N : List Str) : OInv g N [] := ⟨.nil, fun x h => (by cases h), rfl, fun i hi => absurd hi (by simp)⟩
theorem ready_iff {g : Str → List Str} {out : List Str} {n : Str} : ready g out n = true ↔ n ∉ out ∧ ∀ m ∈ g n, m ∈ out := by
  unfold ready; simp
theorem OInv.len {g : Str → List Str} {N out : List Str} (h : OInv g N out) : out.length ≤ N.length := nodup_le h.d h.s
theorem OInv.step {g : Str → List Str} {N out : List Str} {n : Str} (h : OInv g N out) (hn : ordNext g N out = some n) : OInv g N (out ++ [n]) ∧ out.length < N.length := by
  have h1 := List.mem_of_find?_eq_some hn
  obtain ⟨h2, h3⟩ := ready_iff.1 (List.find?_some hn)
  have hd : (out ++ [n]).Nodup := List.nodup_append.2 ⟨h.d, by simp, fun x hx y hy e => by rw [List.mem_singleton] at hy; subst hy; subst e; exact h2 hx⟩
  have hs : ∀ x ∈ out ++ [n], x ∈ N := fun x hx => by
    rcases List.mem_append.1 hx with hx | hx
    · exact h.s x hx
    · rw [List.mem_singleton] at hx; subst hx; exact h1
  have hl := nodup_le hd hs
  rw [List.length_append, List.length_singleton] at hl
  refine ⟨⟨hd, hs, ?_, fun i hi m hm => ?_⟩, hl⟩
  · rw [h.e, show N.length - out.length = (N.length - (out ++ [n]).length) + 1 by rw [List.length_append, List.length_singleton]; omega, ordL, hn]
  · by_cases hi2 : i < out.length
    · rw [List.getElem_append_left hi2] at hm
      rw [List.take_append_of_le_length (by omega)]
      exact h.b i hi2 m hm
    · have e : i = out.length := by simp at hi; omega
      subst e
      rw [List.getElem_append_right (by omega)] at hm
      simp at hm
      rw [List.take_left]
      exact h3 m hm
theorem OInv.done {g : Str → List Str} {N out : List Str} (h : OInv g N out) (hn : ordNext g N out = none) : out = orderL g N := by
  rw [h.e]
  cases hk : N.length - out.length with
  | zero => rfl
  | succ k => rw [ordL, hn]
theorem OInv.end_ {g : Str → List Str} {N : List Str} : ∃ out, OInv g N out ∧ ordNext g N out = none := by
  have key : ∀ k out, OInv g N out → N.length - out.length ≤ k → ∃ out, OInv g N out ∧ ordNext g N out = none := by
    intro k
    induction k with
    | zero =>
      intro out h hk
      refine ⟨out, h, ?_⟩
      cases hn : ordNext g N out with
      | none => rfl
      | some n => have := (h.step hn).2; omega
    | succ k ih =>
      intro out h hk
      cases hn : ordNext g N out with
      | none => exact ⟨out, h, hn⟩
      | some n =>
        obtain ⟨h1, h2⟩ := h.step hn
        exact ih _ h1 (by rw [List.length_append, List.length_singleton]; omega)
  exact key _ [] (OInv.start g N) (Nat.le_refl _)
/-! The cycle of a catalog. -/
def IsCyc (g : Str → List Str) (N l : List Str) : Prop :=
  (l = [] ∧ ∀ a ∈ N, ∀ q, ¬ Cyc g a q) ∨ ∃ a q, l = a :: q ∧ a ∈ N ∧ Best g a q ∧ (∀ b ∈ N, sLt b a = true → ∀ m, Cyc g b m → q.length < m.length) ∧ ∀ b ∈ N, ∀ m, Cyc g b m → q.length ≤ m.length
theorem IsCyc.uniq {g : Str → List Str} {N l l' : List Str} (h : IsCyc g N l) (k : IsCyc g N l') : l = l' := by
  rcases h with ⟨rfl, h⟩ | ⟨a, q, rfl, ha, hb, h1, h2⟩ <;> rcases k with ⟨rfl, k⟩ | ⟨b, m, rfl, kb, kc, k1, k2⟩
  · rfl
  · exact absurd kc.c (h b kb m)
  · exact absurd hb.c (k a ha q)
  · have e : a = b := by
      by_cases e1 : sLt a b = true
      · have := k1 a ha e1 q hb.c
        have := h2 b kb m kc.c
        omega
      · by_cases e2 : sLt b a = true
        · have := h1 b kb e2 m kc.c
          have := k2 a ha q hb.c
          omega
        · exact sLt_tri (by simpa using e1) (by simpa using e2)
    subst e
    rw [hb.uniq kc]
open Classical in
noncomputable def cycL (g : Str → List Str) (N : List Str) : List Str := if h : ∃ l, IsCyc g N l then h.choose else []
theorem cycL_eq {g : Str → List Str} {N l : List Str} (h : IsCyc g N l) : cycL g N = l := by
  have h' : ∃ l, IsCyc g N l := ⟨l, h⟩
  unfold cycL; rw [dif_pos h']
  exact h'.choose_spec.uniq h
/-- What holds of the best cycle among the first i names. -/
def CInv (g : Str → List Str) (N : List Str) (i : Nat) (l : List Str) : Prop :=
  (l = [] ∧ ∀ j (hj : j < N.length), j < i → ∀ q, ¬ Cyc g N[j] q) ∨
    ∃ (k : Nat) (hk : k < N.length) (q : List Str), k < i ∧ l = N[k] :: q ∧ Best g N[k] q ∧ (∀ j (hj : j < N.length), j < k → ∀ m, Cyc g N[j] m → q.length < m.length) ∧ ∀ j (hj : j < N.length), j < i → ∀ m, Cyc g N[j] m → q.length ≤ m.length
theorem CInv.start (g : Str → List Str) (N : List Str) : CInv g N 0 [] := .inl ⟨rfl, fun j _ h => absurd h (by omega)⟩
theorem CInv.none {g : Str → List Str} {N l : List Str} {i : Nat} (h : CInv g N i l) (hi : i < N.length) (hn : ∀ q, ¬ Cyc g N[i] q) : CInv g N (i + 1) l := by
  rcases h with ⟨rfl, h⟩ | ⟨k, hk, q, h1, rfl, h2, h3, h4⟩
  · refine .inl ⟨rfl, fun j hj hlt q => ?_⟩
    rcases Nat.lt_or_eq_of_le (Nat.le_of_lt_succ hlt) with h5 | rfl
    · exact h j hj h5 q
    · exact hn q
  · refine .inr ⟨k, hk, q, by omega, rfl, h2, h3, fun j hj hlt m hm => ?_⟩
    rcases Nat.lt_or_eq_of_le (Nat.le_of_lt_succ hlt) with h5 | rfl
    · exact h4 j hj h5 m hm
    · exact absurd hm (hn m)
theorem CInv.skip {g : Str → List Str} {N l p : List Str} {i : Nat} (h : CInv g N i l) (hi : i < N.length) (hb : Best g N[i] p) (hl : l ≠ []) (hle : l.length ≤ p.length + 1) : CInv g N (i + 1) l := by
  rcases h with ⟨rfl, h⟩ | ⟨k, hk, q, h1, rfl, h2, h3, h4⟩
  · exact absurd rfl hl
  · refine .inr ⟨k, hk, q, by omega, rfl, h2, h3, fun j hj hlt m hm => ?_⟩
    rcases Nat.lt_or_eq_of_le (Nat.le_of_lt_succ hlt) with h5 | rfl
    · exact h4 j hj h5 m hm
    · have := hb.s m hm
      simp only [List.length_cons] at hle
      omega
theorem CInv.take {g : Str → List Str} {N l p : List Str} {i : Nat} (h : CInv g N i l) (hi : i < N.length) (hb : Best g N[i] p) (hlt : l = [] ∨ p.length + 1 < l.length) : CInv g N (i + 1) (N[i] :: p) := by
  refine .inr ⟨i, hi, p, by omega, rfl, hb, fun j hj hji m hm => ?_, fun j hj hji m hm => ?_⟩
  · rcases h with ⟨rfl, h⟩ | ⟨k, hk, q, h1, rfl, h2, h3, h4⟩
    · exact absurd hm (h j hj hji m)
    · have := h4 j hj hji m hm
      rcases hlt with e | e
      · cases e
      · simp only [List.length_cons] at e; omega
  · rcases Nat.lt_or_eq_of_le (Nat.le_of_lt_succ hji) with h5 | rfl
    · rcases h with ⟨rfl, h⟩ | ⟨k, hk, q, h1, rfl, h2, h3, h4⟩
      · exact absurd hm (h j hj h5 m)
      · have := h4 j hj h5 m hm
        rcases hlt with e | e
        · cases e
        · simp only [List.length_cons] at e; omega
    · exact hb.s m hm
theorem CInv.done {g : Str → List Str} {N l : List Str} (hN : Srt N) (h : CInv g N N.length l) : l = cycL g N := by
  refine (cycL_eq ?_).symm
  have lt : ∀ (k : Nat) (hk : k < N.length) (j : Nat) (hj : j < N.length), sLt N[j] N[k] = true → j < k := fun k hk j hj h => by
    rcases Nat.lt_or_ge j k with h1 | h1
    · exact h1
    · rcases Nat.eq_or_lt_of_le h1 with rfl | h2
      · rw [sLt_irrefl] at h; cases h
      · have := List.pairwise_iff_getElem.1 hN k j hk hj h2
        rw [sLt_asymm this] at h; cases h
  rcases h with ⟨rfl, h⟩ | ⟨k, hk, q, h1, rfl, h2, h3, h4⟩
  · refine .inl ⟨rfl, fun a ha q => ?_⟩
    obtain ⟨j, hj, rfl⟩ := List.getElem_of_mem ha
    exact h j hj hj q
  · refine .inr ⟨_, q, rfl, List.getElem_mem _, h2, fun b hb hlt m hm => ?_, fun b hb m hm => ?_⟩
    · obtain ⟨j, hj, rfl⟩ := List.getElem_of_mem hb
      exact h3 j hj (lt k hk j hj hlt) m hm
    · obtain ⟨j, hj, rfl⟩ := List.getElem_of_mem hb
      exact h4 j hj hj m hm
end Go.Proofs.YtekngilbecjkhaaGreatDoor
