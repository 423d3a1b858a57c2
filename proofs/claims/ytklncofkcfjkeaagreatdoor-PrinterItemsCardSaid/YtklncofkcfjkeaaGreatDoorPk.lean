
/- Texts of expressions: what they are. -/
import Derived.Test.YtklncofkcfjkeaaGreatDoorPj
set_option linter.unusedSimpArgs false
set_option linter.unusedVariables false
set_option maxRecDepth 100000
set_option maxHeartbeats 4000000
namespace Go.Proofs.YtklncofkcfjkeaaGreatDoor
open Go.Sx Go.Proofs
def rank (x : Ex) : Int :=
  if x.kind = 8 then 0 else if x.kind = 9 then 1
  else if x.kind = 6 then (if x.op = ⟨#[45]⟩ then 8 else if x.op = ⟨#[110, 111, 116]⟩ then 4 else 9)
  else if x.kind = 7 then (if x.op = ⟨#[111, 114]⟩ then 2 else if x.op = ⟨#[97, 110, 100]⟩ then 3 else if x.op = ⟨#[43]⟩ ∨ x.op = ⟨#[45]⟩ then 6 else if x.op = ⟨#[42]⟩ ∨ x.op = ⟨#[47]⟩ then 7 else 5)
  else 9
theorem rank_le (x : Ex) : 0 ≤ rank x ∧ rank x ≤ 9 := by
  unfold rank
  repeat' split
  all_goals omega
def winT (w : Win) : Str :=
  if w.kind = 2 then ⟨#[115, 108, 105, 100, 105, 110, 103, 32]⟩ ++ intS w.size else if w.kind = 3 then ⟨#[116, 117, 109, 98, 108, 105, 110, 103, 32]⟩ ++ intS w.size
  else if w.kind = 4 then ⟨#[115, 101, 115, 115, 105, 111, 110, 32]⟩ ++ intS w.size else ⟨#[97, 108, 108]⟩
def litT (x : Ex) : Str := if x.val.kind = 5 then ⟨#[64]⟩ ++ (x.name ++ (⟨#[32, 34]⟩ ++ (x.val.s ++ ⟨#[34]⟩))) else valS x.val ++ unitT x.unit
def par (s : Str) : Str := ⟨#[40]⟩ ++ (s ++ ⟨#[41]⟩)
def atF (x : Ex) (T : Nat → Str) (i : Nat) (r : Int) : Str := if rank (x.args.getD i default) < r then par (T i) else T i
def aggT (x : Ex) (T : Nat → Str) : Str :=
  x.op ++ (⟨#[40]⟩ ++ (x.table ++ ((if x.op = cnt then ⟨#[]⟩ else ⟨#[44, 32]⟩ ++ T 0) ++ ((if x.param = 0 then ⟨#[]⟩ else ⟨#[44, 32]⟩ ++ intS x.param)
    ++ (⟨#[44, 32]⟩ ++ (winT x.win ++ ((if x.args.getD 1 default = tru then ⟨#[]⟩ else ⟨#[32, 119, 104, 101, 114, 101, 32]⟩ ++ T 1) ++ ⟨#[41]⟩)))))))
def unT (x : Ex) (T : Nat → Str) : Str :=
  if x.op = ⟨#[45]⟩ then ⟨#[45]⟩ ++ atF x T 0 8 else if x.op = ⟨#[110, 111, 116]⟩ then ⟨#[110, 111, 116, 32]⟩ ++ atF x T 0 4 else ⟨#[110, 117, 108, 108, 40]⟩ ++ (T 0 ++ ⟨#[41]⟩)
def leftR (x : Ex) : Int := if rank x = 5 then 6 else rank x
def binT (x : Ex) (T : Nat → Str) : Str := atF x T 0 (leftR x) ++ (⟨#[32]⟩ ++ (x.op ++ (⟨#[32]⟩ ++ atF x T 1 (rank x + 1))))
def ifT (x : Ex) (T : Nat → Str) : Str := ⟨#[105, 102, 32]⟩ ++ (T 0 ++ (⟨#[32, 116, 104, 101, 110, 32]⟩ ++ (T 1 ++ (⟨#[32, 101, 108, 115, 101, 32]⟩ ++ T 2))))
def defT (x : Ex) (T : Nat → Str) : Str := atF x T 0 1 ++ (⟨#[32, 100, 101, 102, 97, 117, 108, 116, 32]⟩ ++ atF x T 1 2)
def textF (x : Ex) (T : Nat → Str) : Str :=
  if x.kind = 1 then litT x else if x.kind = 4 then x.name ++ (⟨#[32, 111, 102, 32, 40]⟩ ++ (T 0 ++ ⟨#[41]⟩)) else if x.kind = 5 then aggT x T
  else if x.kind = 6 then unT x T else if x.kind = 7 then binT x T else if x.kind = 8 then ifT x T else if x.kind = 9 then defT x T else x.name
mutual
def text : Ex → Str
  | .mk k o n t v u p w ks => textF (.mk k o n t v u p w ks) (fun i => (textL ks).getD i ⟨#[]⟩)
def textL : List Ex → List Str
  | [] => []
  | x :: l => text x :: textL l
end
def tx (x : Ex) (i : Nat) : Str := (textL x.args).getD i ⟨#[]⟩
theorem text_eq (x : Ex) : text x = textF x (tx x) := by cases x; rfl
theorem textL_at : ∀ (l : List Ex) (i : Nat), i < l.length → (textL l).getD i ⟨#[]⟩ = text (l.getD i default)
  | [], _, h => absurd h (by simp)
  | x :: l, 0, _ => rfl
  | x :: l, i + 1, h => by
    have := textL_at l i (by simpa using h)
    simpa [textL] using this
theorem tx_at {x : Ex} {i : Nat} (h : i < x.args.length) : tx x i = text (x.args.getD i default) := textL_at _ _ h

theorem sizeL_le1 {l : List Ex} (h : 0 < l.length) : (l.getD 0 default).size ≤ Ex.sizeL l := Ex.sizeL_mem (getD_mem h)
theorem sizeL_le2 {l : List Ex} (h : 1 < l.length) : (l.getD 0 default).size + (l.getD 1 default).size ≤ Ex.sizeL l := by
  match l, h with
  | a :: b :: l, _ => simp only [Ex.sizeL, List.getD_cons_zero, List.getD_cons_succ]; omega
theorem sizeL_le3 {l : List Ex} (h : 2 < l.length) : (l.getD 0 default).size + (l.getD 1 default).size + (l.getD 2 default).size ≤ Ex.sizeL l := by
  match l, h with
  | a :: b :: c :: l, _ => simp only [Ex.sizeL, List.getD_cons_zero, List.getD_cons_succ]; omega

/-- What the form of an expression gives. -/
structure FOK (x : Ex) (ins : Bool) : Prop where
  nb : nodeB x ins
  nn : (x.args.length : Int) = nodeN x
  sub : ∀ y ∈ x.args, form (ins || decide (x.kind = 5)) y = true
  cn : x.kind = 5 → x.op = cnt → x.args.getD 0 default = tru
theorem FOK.of {x : Ex} {ins : Bool} (h : form ins x = true) : FOK x ins := by
  obtain ⟨h1, h2, h3, h4⟩ := (form_iff ins x).1 h
  exact ⟨h1, h2, h3, h4⟩
theorem word_ne {s : Str} (h : Word s) : 1 ≤ s.size := h.1
theorem unit_facs {u : List Fac} (h : unitErr u = 0) : u.length ≤ 4 ∧ ∀ f ∈ u, FacOK f := by
  unfold unitErr at h
  split at h
  · omega
  · rename_i hl
    refine ⟨by omega, ?_⟩
    have : ∀ (l : List Fac) (p : Option Str), unitErrL p l = 0 → ∀ f ∈ l, FacOK f := by
      intro l
      induction l with
      | nil => intro p _ f hf; cases hf
      | cons g l ih =>
        intro p hp f hf
        rw [unitErrL] at hp
        split at hp
        · rename_i h0
          rcases List.mem_cons.1 hf with rfl | hf
          · unfold facErr at h0
            split at h0
            · omega
            · rename_i hw
              have hw := Decidable.not_not.1 hw
              split at h0
              · omega
              · exact ⟨hw.2.1, by omega, by omega, hw.1⟩
          · exact ih _ hp f hf
        · rename_i h0; exact absurd hp h0
    exact this u none h
theorem tyErr_unit {t : Ty} (h : tyErr t = 0) : t.unit.length ≤ 4 ∧ (∀ f ∈ t.unit, FacOK f) ∧ t.of.size ≤ 24 := by
  unfold tyErr at h
  split at h
  · omega
  · rename_i h3
    split at h
    · omega
    · rename_i h70
      have hu : unitErr t.unit = 0 := Decidable.not_not.1 fun h' => h70 (.inl h')
      obtain ⟨h1, h2⟩ := unit_facs hu
      refine ⟨h1, h2, ?_⟩
      by_cases hk : t.kind = 5
      · have : Name t.of := Decidable.not_not.1 fun h' => h3 (.inr (.inr (.inr (.inl ⟨hk, h'⟩))))
        exact this.1.2.1
      · have : t.of = ⟨#[]⟩ := Decidable.not_not.1 fun h' => h3 (.inr (.inr (.inr (.inr ⟨hk, h'⟩))))
        rw [this]; decide
theorem intS_size {n : Int} (h : n ≤ 1152921504606846976) : (intS n).size ≤ 21 := by
  show (Lib.decDigits n.toNat).toArray.size ≤ 21
  rw [List.size_toArray]; exact dd_len (by omega)
theorem litT_size {x : Ex} (h : litOK x) : (litT x).size ≤ 400 := by
  obtain ⟨h1, h2, h3, h4⟩ := h
  have hv : VOK x.val := ⟨h1, h2⟩
  have hk := hv.kinds
  have hs := valS_size hv
  obtain ⟨hl, hu, ho⟩ := tyErr_unit h3
  have hu : (unitT x.unit).size ≤ 210 := unitT_size hu hl
  simp only at ho
  unfold litT
  split
  · (first | omega | (simp only [List.length_cons, List.length_nil, List.length_append, List.length_map, List.length_take, app_size, szl, str_len, List.size_toArray]; omega))
  · simp only [app_size]; omega
theorem winT_size {w : Win} (h : winOK w) : (winT w).size ≤ 40 := by
  have := @intS_size w.size (by unfold winOK at h; omega)
  unfold winT
  repeat' split
  all_goals first | decide | (first | omega | (simp only [List.length_cons, List.length_nil, List.length_append, List.length_map, List.length_take, app_size, szl, str_len, List.size_toArray]; omega))
theorem aggL_size : ∀ s ∈ aggL, s.size ≤ 8 := by decide
theorem unL_size : ∀ s ∈ unL, s.size ≤ 8 := by decide
theorem binL_size : ∀ s ∈ binL, s.size ≤ 8 := by decide
theorem atF_size {x : Ex} {T : Nat → Str} {i : Nat} {r : Int} : (atF x T i r).size ≤ (T i).size + 2 := by
  unfold atF par; split
  · (first | omega | (simp only [List.length_cons, List.length_nil, List.length_append, List.length_map, List.length_take, app_size, szl, str_len, List.size_toArray]; omega))
  · omega
theorem text_size (x : Ex) : ∀ ins, form ins x = true → (text x).size ≤ 500 * x.size := by
  induction x using Ex.ind with
  | h x ih =>
  intro ins hf
  have h := FOK.of hf
  have hT : ∀ i, i < x.args.length → (tx x i).size ≤ 500 * (x.args.getD i default).size := fun i hi => by
    rw [tx_at hi]; exact ih _ (getD_mem hi) _ (h.sub _ (getD_mem hi))
  have hs := Ex.size_args x
  have hb := h.nb
  have hn := h.nn
  have hn3 := hn
  rw [text_eq]
  unfold textF
  unfold nodeN at hn
  by_cases h1 : x.kind = 1
  · rw [if_pos h1]
    have := litT_size (x := x) (by unfold nodeB at hb; rwa [if_pos h1] at hb)
    omega
  rw [if_neg h1]
  by_cases h4 : x.kind = 4
  · rw [if_pos h4]
    rw [if_pos (.inl h4)] at hn
    have hN : namOK x := by unfold nodeB at hb; rw [if_neg (by omega), if_neg (by omega), if_pos (.inr h4)] at hb; exact hb.2
    have h5 := hN.1.1.2.1
    have h6 := hT 0 (by omega)
    have h7 := sizeL_le1 (l := x.args) (by omega)
    (first | omega | (simp only [List.length_cons, List.length_nil, List.length_append, List.length_map, List.length_take, app_size, szl, str_len, List.size_toArray]; omega))
  rw [if_neg h4]
  by_cases h5 : x.kind = 5
  · rw [if_pos h5]
    rw [if_neg (by omega), if_pos (.inl h5)] at hn
    have hA : aggOK x := by unfold nodeB at hb; rw [if_neg (by omega), if_neg (by omega), if_neg (by omega), if_pos h5] at hb; exact hb.2
    obtain ⟨⟨y, hy, ho⟩, ht, hw, hp, -⟩ := hA
    have e1 := aggL_size y hy
    rw [← ho] at e1
    have e2 := ht.1.2.1
    have e3 := winT_size hw
    have e4 : (intS x.param).size ≤ 21 := intS_size (by unfold parOK at hp; repeat' split at hp
                                                        all_goals omega)
    have e6 := hT 0 (by omega)
    have e7 := hT 1 (by omega)
    have e8 := sizeL_le2 (l := x.args) (by omega)
    have a1 : (if x.op = cnt then (⟨#[]⟩ : Str) else ⟨#[44, 32]⟩ ++ tx x 0).size ≤ 2 + (tx x 0).size := by
      split
      · rw [szl]; exact Nat.zero_le _
      · rw [app_size, szl]; exact Nat.le_refl _
    have a2 : (if x.param = 0 then (⟨#[]⟩ : Str) else ⟨#[44, 32]⟩ ++ intS x.param).size ≤ 23 := by
      split
      · decide
      · rw [app_size, szl]; show 2 + _ ≤ _; omega
    have a3 : (if x.args.getD 1 default = tru then (⟨#[]⟩ : Str) else ⟨#[32, 119, 104, 101, 114, 101, 32]⟩ ++ tx x 1).size ≤ 7 + (tx x 1).size := by
      split
      · rw [szl]; exact Nat.zero_le _
      · rw [app_size, szl]; exact Nat.le_refl _
    unfold aggT
    (first | omega | (simp only [List.length_cons, List.length_nil, List.length_append, List.length_map, List.length_take, app_size, szl, str_len, List.size_toArray]; omega))
  rw [if_neg h5]
  by_cases h6 : x.kind = 6
  · rw [if_pos h6]
    rw [if_pos (.inr h6)] at hn
    have e6 := hT 0 (by omega)
    have e7 := sizeL_le1 (l := x.args) (by omega)
    have e8 := @atF_size x (tx x) 0 8
    have e9 := @atF_size x (tx x) 0 4
    unfold unT
    repeat' split
    all_goals (first | omega | (simp only [List.length_cons, List.length_nil, List.length_append, List.length_map, List.length_take, app_size, szl, str_len, List.size_toArray]; omega))
  rw [if_neg h6]
  by_cases h7 : x.kind = 7
  · rw [if_pos h7]
    rw [if_neg (by omega), if_pos (.inr (.inl h7))] at hn
    have hB : ∃ y ∈ binL, x.op = y := by unfold nodeB at hb; rw [if_neg (by omega), if_neg (by omega), if_neg (by omega), if_neg (by omega), if_neg (by omega), if_pos h7] at hb; exact hb.2
    obtain ⟨y, hy, ho⟩ := hB
    have e1 := binL_size y hy
    rw [← ho] at e1
    have e6 := hT 0 (by omega)
    have e7 := hT 1 (by omega)
    have e8 := sizeL_le2 (l := x.args) (by omega)
    have e9 := @atF_size x (tx x) 0 (leftR x)
    have e10 := @atF_size x (tx x) 1 (rank x + 1)
    unfold binT
    (first | omega | (simp only [List.length_cons, List.length_nil, List.length_append, List.length_map, List.length_take, app_size, szl, str_len, List.size_toArray]; omega))
  rw [if_neg h7]
  by_cases h8 : x.kind = 8
  · rw [if_pos h8]
    rw [if_neg (by omega), if_neg (by omega), if_pos h8] at hn
    have e6 := hT 0 (by omega)
    have e7 := hT 1 (by omega)
    have e5 := hT 2 (by omega)
    have e8 := sizeL_le3 (l := x.args) (by omega)
    unfold ifT
    (first | omega | (simp only [List.length_cons, List.length_nil, List.length_append, List.length_map, List.length_take, app_size, szl, str_len, List.size_toArray]; omega))
  rw [if_neg h8]
  by_cases h9 : x.kind = 9
  · rw [if_pos h9]
    rw [if_neg (by omega), if_pos (.inr (.inr h9))] at hn
    have e6 := hT 0 (by omega)
    have e7 := hT 1 (by omega)
    have e8 := sizeL_le2 (l := x.args) (by omega)
    have e9 := @atF_size x (tx x) 0 1
    have e10 := @atF_size x (tx x) 1 2
    unfold defT
    (first | omega | (simp only [List.length_cons, List.length_nil, List.length_append, List.length_map, List.length_take, app_size, szl, str_len, List.size_toArray]; omega))
  rw [if_neg h9]
  have hN : namOK x := by
    unfold nodeB at hb
    rw [if_neg h1] at hb
    split at hb
    · exact hb.2
    · split at hb
      · exact hb.2
      · rw [if_neg (by omega)] at hb; exact hb.elim
  have h5 := hN.1.1.2.1
  omega
end Go.Proofs.YtklncofkcfjkeaaGreatDoor
