/- Words. -/
import Derived.Test.YtekngilbecjkhaaGreatDoorCodeA
import Derived.Test.YtekngilbecjkhaaGreatDoorGi
import Derived.Test.YtekngilbecjkhaaGreatDoorRows
import Derived.Test.YtekngilbecjkhaaGreatDoorPt
import Derived.Test.YtekngilbecjkhaaGreatDoorGl
import Derived.Lib.ItoaLen
set_option linter.unusedSimpArgs false
set_option linter.unusedVariables false
set_option maxRecDepth 100000
namespace Go.Proofs.YtekngilbecjkhaaGreatDoor
open Go.Sx Go.Proofs
def Low (c : Nat) : Prop := 97 ≤ c ∧ c ≤ 122
instance (c : Nat) : Decidable (Low c) := inferInstanceAs (Decidable (_ ∧ _))
def Dig (c : Nat) : Prop := 48 ≤ c ∧ c ≤ 57
instance (c : Nat) : Decidable (Dig c) := inferInstanceAs (Decidable (_ ∧ _))
def Wch (c : Nat) : Prop := Low c ∨ Dig c ∨ c = 95
instance (c : Nat) : Decidable (Wch c) := inferInstanceAs (Decidable (_ ∨ _))
def Word (s : Str) : Prop := 1 ≤ s.size ∧ s.size ≤ 24 ∧ Low ((byteAt s 0).toNat) ∧ ∀ i, i < s.size → Wch ((byteAt s i).toNat)
instance (s : Str) : Decidable (Word s) := inferInstanceAs (Decidable (_ ∧ _ ∧ _ ∧ _))
theorem cons_lt {P : Nat → Prop} {i : Nat} (h : ∀ j, j < i → P j) (hi : P i) : ∀ j, j < i + 1 → P j := fun j hj => by
  rcases Nat.lt_or_ge j i with h' | h'
  · exact h j h'
  · obtain rfl : j = i := by omega
    exact hi
end Go.Proofs.YtekngilbecjkhaaGreatDoor

/- Keywords and names. -/
set_option linter.unusedSimpArgs false
set_option linter.unusedVariables false
set_option maxRecDepth 100000
namespace Go.Proofs.YtekngilbecjkhaaGreatDoor
open Go.Sx Go.Proofs
def kwB : List (List UInt8) := [[116, 97, 98, 108, 101], [102, 101, 97, 116, 117, 114, 101], [111, 102], [107, 101, 101, 112], [98, 111, 111, 108], [116, 101, 120, 116], [107, 101, 121], [105, 110, 116], [100, 101, 99], [105, 102], [116, 104, 101, 110], [101, 108, 115, 101], [100, 101, 102, 97, 117, 108, 116], [111, 114], [97, 110, 100], [110, 111, 116], [116, 114, 117, 101], [102, 97, 108, 115, 101], [110, 117, 108, 108],
  [99, 111, 117, 110, 116], [115, 117, 109], [109, 101, 97, 110], [109, 105, 110], [109, 97, 120], [102, 105, 114, 115, 116], [108, 97, 115, 116], [100, 105, 115, 116, 105, 110, 99, 116], [113, 117, 97, 110, 116, 105, 108, 101], [100, 101, 99, 97, 121], [97, 108, 108], [115, 108, 105, 100, 105, 110, 103], [116, 117, 109, 98, 108, 105, 110, 103], [115, 101, 115, 115, 105, 111, 110], [119, 104, 101, 114, 101]]
def KW (s : Str) : Prop := s.data.toList ∈ kwB
instance (s : Str) : Decidable (KW s) := inferInstanceAs (Decidable (_ ∈ _))
def Name (s : Str) : Prop := Word s ∧ ¬ KW s
instance (s : Str) : Decidable (Name s) := inferInstanceAs (Decidable (_ ∧ _))
theorem str_ext {a b : Str} (h : a.data.toList = b.data.toList) : a = b := by
  cases a; cases b; congr 1; exact Array.ext' h
end Go.Proofs.YtekngilbecjkhaaGreatDoor

/- Lists of strings and of factors; units; types. -/
set_option linter.unusedSimpArgs false
set_option linter.unusedVariables false
set_option maxRecDepth 100000
namespace Go.Proofs.YtekngilbecjkhaaGreatDoor
open Go.Sx Go.Proofs
def firstIdx {α : Type} (p : α → Bool) : List α → Nat → Int
  | [], _ => -1
  | x :: l, k => if p x then k else firstIdx p l (k + 1)
theorem firstIdx_no {α : Type} {p : α → Bool} : ∀ {l : List α} {k : Nat}, (∀ x ∈ l, p x = false) → firstIdx p l k = -1
  | [], k, _ => rfl
  | x :: l, k, h => by unfold firstIdx; rw [h x (by simp)]; exact firstIdx_no fun y hy => h y (by simp [hy])
theorem firstIdx_at {α : Type} [Inhabited α] {p : α → Bool} : ∀ {l : List α} {k i : Nat}, (∀ j, j < i → p (l.getD j default) = false) → i < l.length → p (l.getD i default) = true → firstIdx p l k = ((k + i : Nat) : Int)
  | [], k, i, _, h, _ => absurd h (by simp)
  | x :: l, k, 0, _, _, h => by
    have h : p x = true := h
    unfold firstIdx; rw [h]; simp
  | x :: l, k, i + 1, ha, hi, h => by
    have h0 : p x = false := ha 0 (by omega)
    unfold firstIdx
    rw [h0]
    simp only [Bool.false_eq_true, if_false]
    rw [firstIdx_at (k := k + 1) (i := i) (fun j hj => ha (j + 1) (by omega)) (by simpa using hi) h]
    congr 1; omega
theorem take_all {α : Type} [Inhabited α] {p : α → Prop} {l : List α} (h : ∀ j, j < l.length → p (l.getD j default)) : ∀ x ∈ l, p x := fun x hx => by
  obtain ⟨i, hi, rfl⟩ := List.mem_iff_getElem.1 hx
  have := h i hi
  rwa [getD_eq hi] at this
def leS (a b : Str) : Bool := Op.bytesLess a.toList b.toList || decide (a = b)
def facErr (p : Option Str) (f : Fac) : Int := if ¬ Word f.name then 1 else if f.exp = 0 ∨ f.exp > 8 ∨ f.exp < -8 then 70 else match p with
  | some p => if leS f.name p = true then 3 else 0
  | none => 0
def unitErrL : Option Str → List Fac → Int
  | _, [] => 0
  | p, f :: l => if facErr p f = 0 then unitErrL (some f.name) l else facErr p f
def unitErr (u : List Fac) : Int := if u.length > 4 then 2 else unitErrL none u
end Go.Proofs.YtekngilbecjkhaaGreatDoor

/- Types and values. -/
set_option linter.unusedSimpArgs false
set_option linter.unusedVariables false
set_option maxRecDepth 100000
namespace Go.Proofs.YtekngilbecjkhaaGreatDoor
open Go.Sx Go.Proofs
def Num (t : Ty) : Prop := t.kind = 2 ∨ t.kind = 3
instance (t : Ty) : Decidable (Num t) := inferInstanceAs (Decidable (_ ∨ _))
def tyErr (t : Ty) : Int :=
  if t.kind < 1 ∨ t.kind > 5 ∨ (t.unit ≠ [] ∧ ¬ Num t) ∨ (t.kind = 5 ∧ ¬ Name t.of) ∨ (t.kind ≠ 5 ∧ t.of ≠ ⟨#[]⟩) then 3
  else if unitErr t.unit ≠ 0 ∨ ∃ f ∈ t.unit, ¬ Name f.name then 70 else 0
def pr (low : Nat) (c : UInt8) : Prop := low ≤ c.toNat ∧ c.toNat ≤ 126 ∧ c.toNat ≠ 34 ∧ c.toNat ≠ 92
instance (low : Nat) (c : UInt8) : Decidable (pr low c) := inferInstanceAs (Decidable (_ ∧ _ ∧ _ ∧ _))
def Prt (s : Str) (low : Nat) : Prop := ∀ i, i < s.size → pr low (byteAt s i)
instance (s : Str) (low : Nat) : Decidable (Prt s low) := inferInstanceAs (Decidable (∀ i, i < s.size → _))
def fieldsOK (v : Val) : Prop := 0 ≤ v.kind ∧ v.kind ≤ 5 ∧ (v.kind ≤ 3 → v.s = ⟨#[]⟩) ∧ (v.kind = 0 → v.n = 0) ∧ (v.kind = 1 → v.n = 0 ∨ v.n = 1) ∧ (4 ≤ v.kind → v.n = 0)
instance (v : Val) : Decidable (fieldsOK v) := inferInstanceAs (Decidable (_ ∧ _ ∧ _ ∧ _ ∧ _ ∧ _))
def valErr (v : Val) : Int :=
  if ¬ fieldsOK v then 1
  else if v.n < -1152921504606846976 ∨ v.n > 1152921504606846976 ∨ (v.kind = 4 ∧ v.s.size > 64) ∨ (v.kind = 5 ∧ v.s.size > 32) then 2
  else if (v.kind = 4 ∧ ¬ Prt v.s 32) ∨ (v.kind = 5 ∧ (v.s = ⟨#[]⟩ ∨ ¬ Prt v.s 33)) then 3 else 0
end Go.Proofs.YtekngilbecjkhaaGreatDoor

/- Sizes and forms of expressions. -/
set_option linter.unusedSimpArgs false
set_option linter.unusedVariables false
set_option maxRecDepth 100000
namespace Go.Proofs.YtekngilbecjkhaaGreatDoor
open Go.Sx Go.Proofs
def Ex.lay (x : Ex) : List AV := [iv x.kind, sv x.op, sv x.name, sv x.table, iv x.val.kind, iv x.val.n, sv x.val.s, .sl false 2 (x.unit.map Fac.cells), iv x.param, iv x.win.kind, iv x.win.size, .sl false 12 (x.args.map Ex.row)]
def Ex.lens (x : Ex) : Nat := x.op.size + x.name.size + x.table.size + x.val.s.size
mutual
def Ex.wt : Ex → Nat
  | .mk _ o n t v _ _ _ ks => max (o.size + n.size + t.size + v.s.size) (Ex.wtL ks)
def Ex.wtL : List Ex → Nat
  | [] => 0
  | x :: l => max x.wt (Ex.wtL l)
end
def Ex.big (x : Ex) (n : Int) : Prop := n < 1 ∨ x.lens > 300 ∨ x.unit.length > 10 ∨ x.args.length > 10 ∨ ∃ f ∈ x.unit, f.name.size > 100
instance (x : Ex) (n : Int) : Decidable (x.big n) := inferInstanceAs (Decidable (_ ∨ _ ∨ _ ∨ _ ∨ _))
def FewTy (t : Ty) : Prop := t.of.size ≤ 300 ∧ t.unit.length ≤ 10 ∧ ∀ f ∈ t.unit, f.name.size ≤ 100
instance (t : Ty) : Decidable (FewTy t) := inferInstanceAs (Decidable (_ ∧ _ ∧ _))
end Go.Proofs.YtekngilbecjkhaaGreatDoor

/- Forms of expressions. -/
set_option linter.unusedSimpArgs false
set_option linter.unusedVariables false
set_option maxRecDepth 100000
namespace Go.Proofs.YtekngilbecjkhaaGreatDoor
open Go.Sx Go.Proofs
end Go.Proofs.YtekngilbecjkhaaGreatDoor
namespace Go.Sx
open Go.Proofs.YtekngilbecjkhaaGreatDoor
theorem Wk.row {l : List Ex} {nn : Bool} : Wk (.sl nn 12 (l.map Ex.row)) (.sl nn 12 (l.map Ex.cells)) := by rw [Ex.cells_row]; exact Wk.refl _
end Go.Sx
namespace Go.Proofs.YtekngilbecjkhaaGreatDoor
open Go.Sx Go.Proofs
def Ex.Flat (a b : Ex) : Prop := a.kind = b.kind ∧ a.op = b.op ∧ a.name = b.name ∧ a.table = b.table ∧ a.val = b.val ∧ a.unit = b.unit ∧ a.param = b.param ∧ a.win = b.win
instance (a b : Ex) : Decidable (a.Flat b) := inferInstanceAs (Decidable (_ ∧ _ ∧ _ ∧ _ ∧ _ ∧ _ ∧ _ ∧ _))
def tru : Ex := ⟨1, ⟨#[]⟩, ⟨#[]⟩, ⟨#[]⟩, ⟨1, 1, ⟨#[]⟩⟩, [], 0, ⟨0, 0⟩, []⟩
def winOK (w : Win) : Prop := (w.kind = 1 ∧ w.size = 0) ∨ (1 < w.kind ∧ w.kind ≤ 4 ∧ 1 ≤ w.size ∧ w.size ≤ 1099511627776)
instance (w : Win) : Decidable (winOK w) := inferInstanceAs (Decidable (_ ∨ _ ∧ _ ∧ _ ∧ _))
def litEx (x : Ex) : Ex := ⟨1, ⟨#[]⟩, x.name, ⟨#[]⟩, x.val, x.unit, 0, ⟨0, 0⟩, []⟩
def litOK (x : Ex) : Prop := valErr x.val = 0 ∧ 0 ≤ x.val.n ∧ tyErr ⟨x.val.kind, x.unit, x.name⟩ = 0 ∧ x.Flat (litEx x)
instance (x : Ex) : Decidable (litOK x) := inferInstanceAs (Decidable (_ ∧ _ ∧ _ ∧ _))
def aggEx (x : Ex) : Ex := ⟨5, x.op, ⟨#[]⟩, x.table, ⟨0, 0, ⟨#[]⟩⟩, [], x.param, x.win, []⟩
def parOK (x : Ex) : Prop := if x.op = ⟨#[113, 117, 97, 110, 116, 105, 108, 101]⟩ then 1 ≤ x.param ∧ x.param ≤ 1000 else if x.op = ⟨#[100, 101, 99, 97, 121]⟩ then 1 ≤ x.param ∧ x.param ≤ 1073741824 else x.param = 0
instance (x : Ex) : Decidable (parOK x) := by unfold parOK; infer_instance
def aggOK (x : Ex) : Prop := (∃ y ∈ aggL, x.op = y) ∧ Name x.table ∧ winOK x.win ∧ parOK x ∧ x.Flat (aggEx x)
instance (x : Ex) : Decidable (aggOK x) := inferInstanceAs (Decidable (_ ∧ _ ∧ _ ∧ _ ∧ _))
def namEx (x : Ex) : Ex := ⟨x.kind, ⟨#[]⟩, x.name, ⟨#[]⟩, ⟨0, 0, ⟨#[]⟩⟩, [], 0, ⟨0, 0⟩, []⟩
def opEx (x : Ex) : Ex := ⟨x.kind, x.op, ⟨#[]⟩, ⟨#[]⟩, ⟨0, 0, ⟨#[]⟩⟩, [], 0, ⟨0, 0⟩, []⟩
def namOK (x : Ex) : Prop := Name x.name ∧ x.Flat (namEx x)
instance (x : Ex) : Decidable (namOK x) := inferInstanceAs (Decidable (_ ∧ _))
def nodeN (x : Ex) : Int := if x.kind = 4 ∨ x.kind = 6 then 1 else if x.kind = 5 ∨ x.kind = 7 ∨ x.kind = 9 then 2 else if x.kind = 8 then 3 else 0
def nodeB (x : Ex) (ins : Bool) : Prop :=
  if x.kind = 1 then litOK x else if x.kind = 2 then ins = true ∧ namOK x else if x.kind = 3 ∨ x.kind = 4 then ins = false ∧ namOK x
  else if x.kind = 5 then ins = false ∧ aggOK x else if x.kind = 6 then x.Flat (opEx x) ∧ ∃ y ∈ unL, x.op = y
  else if x.kind = 7 then x.Flat (opEx x) ∧ ∃ y ∈ binL, x.op = y else if x.kind = 8 ∨ x.kind = 9 then x.Flat (opEx x) ∧ x.op = ⟨#[]⟩ else False
instance (x : Ex) (ins : Bool) : Decidable (nodeB x ins) := by unfold nodeB; infer_instance
mutual
def Ex.eqB : Ex → Ex → Bool
  | .mk k o n t v u p w ks, .mk k' o' n' t' v' u' p' w' ks' => decide (k = k' ∧ o = o' ∧ n = n' ∧ t = t' ∧ v = v' ∧ u = u' ∧ p = p' ∧ w = w') && Ex.eqL ks ks'
def Ex.eqL : List Ex → List Ex → Bool
  | [], [] => true
  | x :: l, y :: m => x.eqB y && Ex.eqL l m
  | [], _ :: _ => false
  | _ :: _, [] => false
end
mutual
theorem Ex.eqB_iff : ∀ a b : Ex, a.eqB b = true ↔ a = b
  | .mk k o n t v u p w ks, .mk k' o' n' t' v' u' p' w' ks' => by
    rw [Ex.eqB, Bool.and_eq_true, decide_eq_true_eq, Ex.eqL_iff ks ks', Ex.mk.injEq]
    simp only [and_assoc]
theorem Ex.eqL_iff : ∀ a b : List Ex, Ex.eqL a b = true ↔ a = b
  | [], [] => by simp [Ex.eqL]
  | x :: l, y :: m => by rw [Ex.eqL, Bool.and_eq_true, Ex.eqB_iff x y, Ex.eqL_iff l m, List.cons.injEq]
  | [], _ :: _ => by simp [Ex.eqL]
  | _ :: _, [] => by simp [Ex.eqL]
end
instance : DecidableEq Ex := fun a b => decidable_of_iff _ (Ex.eqB_iff a b)
def cnt : Str := ⟨#[99, 111, 117, 110, 116]⟩
mutual
def form : Bool → Ex → Bool
  | ins, .mk k o n t v u p w ks => decide (nodeB (.mk k o n t v u p w ks) ins) && decide ((ks.length : Int) = nodeN (.mk k o n t v u p w ks)) && formL (ins || decide (k = 5)) ks && (decide (¬ (k = 5 ∧ o = cnt)) || decide (ks.getD 0 default = tru))
def formL : Bool → List Ex → Bool
  | _, [] => true
  | ins, x :: l => form ins x && formL ins l
end
theorem formL_iff (ins : Bool) : ∀ l : List Ex, formL ins l = true ↔ ∀ x ∈ l, form ins x = true
  | [] => by simp [formL]
  | x :: l => by simp [formL, formL_iff ins l]
theorem form_iff (ins : Bool) (x : Ex) : form ins x = true ↔ nodeB x ins ∧ (x.args.length : Int) = nodeN x ∧ (∀ y ∈ x.args, form (ins || decide (x.kind = 5)) y = true) ∧ (x.kind = 5 → x.op = cnt → x.args.getD 0 default = tru) := by
  cases x
  rw [form]
  simp only [Bool.and_eq_true, Bool.or_eq_true, decide_eq_true_eq, formL_iff, Ex.args, Ex.kind, Ex.op]
  constructor
  · rintro ⟨⟨⟨h1, h2⟩, h3⟩, h4⟩
    exact ⟨h1, h2, h3, fun a b => h4.resolve_left fun h => h ⟨a, b⟩⟩
  · rintro ⟨h1, h2, h3, h4⟩
    refine ⟨⟨⟨h1, h2⟩, h3⟩, Decidable.or_iff_not_imp_left.2 fun h => ?_⟩
    have := Decidable.not_not.1 h
    exact h4 this.1 this.2
end Go.Proofs.YtekngilbecjkhaaGreatDoor

/- Shapes; texts of units and types. -/
set_option linter.unusedSimpArgs false
set_option linter.unusedVariables false
set_option maxRecDepth 100000
set_option maxHeartbeats 4000000
namespace Go.Proofs.YtekngilbecjkhaaGreatDoor
open Go.Sx Go.Proofs
def shape (x : Ex) : Int := if 64 < x.size ∨ 12 < x.depth then 2 else if form false x = true then 0 else 3
def facS (f : Fac) : Str := if f.exp = 1 then f.name else f.name ++ (⟨#[94]⟩ ++ itoaS f.exp)
def unitS (u : List Fac) : Str := joinS (u.map facS) ⟨#[42]⟩
end Go.Proofs.YtekngilbecjkhaaGreatDoor

/- Texts of types and of values. -/
set_option linter.unusedSimpArgs false
set_option linter.unusedVariables false
set_option maxRecDepth 100000
set_option maxHeartbeats 4000000
namespace Go.Proofs.YtekngilbecjkhaaGreatDoor
open Go.Sx Go.Proofs
theorem bs {a b : Str} (h : a = b) : AV.v (.string a) = sv b := by rw [h]
def unitT (u : List Fac) : Str := if u = [] then ⟨#[]⟩ else ⟨#[32, 91]⟩ ++ (unitS u ++ ⟨#[93]⟩)
def lowD : Nat → Nat → List UInt8
  | 0, _ => []
  | k + 1, x => lowD k (x / 10) ++ [UInt8.ofNat (48 + x % 10)]
def decS (x : Nat) : Str := ⟨(Lib.decDigits (x / 10 ^ 6) ++ 46 :: lowD 6 x).toArray⟩
end Go.Proofs.YtekngilbecjkhaaGreatDoor

/- Texts of values. -/
set_option linter.unusedSimpArgs false
set_option linter.unusedVariables false
set_option maxRecDepth 100000
set_option maxHeartbeats 4000000
namespace Go.Proofs.YtekngilbecjkhaaGreatDoor
open Go.Sx Go.Proofs
def boolS (n : Int) : Str := if n = 1 then ⟨#[116, 114, 117, 101]⟩ else ⟨#[102, 97, 108, 115, 101]⟩
def intS (n : Int) : Str := ⟨(Lib.decDigits n.toNat).toArray⟩
def valS (v : Val) : Str :=
  if v.kind = 1 then boolS v.n else if v.kind = 2 then intS v.n else if v.kind = 3 then decS v.n.toNat
  else if v.kind = 4 then ⟨#[34]⟩ ++ (v.s ++ ⟨#[34]⟩) else if v.kind = 5 then ⟨#[64]⟩ ++ v.s else ⟨#[110, 117, 108, 108]⟩
structure VOK (v : Val) : Prop where
  e : valErr v = 0
  n : 0 ≤ v.n
theorem VOK.kinds {v : Val} (h : VOK v) : 0 ≤ v.kind ∧ v.kind ≤ 5 ∧ v.n ≤ 1152921504606846976 ∧ v.s.size ≤ 64 := by
  have := h.e
  have h0 := h.n
  unfold valErr at this
  split at this
  · omega
  · rename_i hf
    have hf := Decidable.not_not.1 hf
    split at this
    · omega
    · rename_i hb
      have hs : v.kind ≤ 3 → v.s.size = 0 := fun h => by rw [hf.2.2.1 h]; rfl
      refine ⟨hf.1, hf.2.1, by omega, ?_⟩
      have := hf.2.1
      omega
end Go.Proofs.YtekngilbecjkhaaGreatDoor

/- Texts of expressions: what they are. -/
set_option linter.unusedSimpArgs false
set_option linter.unusedVariables false
set_option maxRecDepth 100000
set_option maxHeartbeats 4000000
namespace Go.Proofs.YtekngilbecjkhaaGreatDoor
open Go.Sx Go.Proofs
def rank (x : Ex) : Int :=
  if x.kind = 8 then 0 else if x.kind = 9 then 1
  else if x.kind = 6 then (if x.op = ⟨#[45]⟩ then 8 else if x.op = ⟨#[110, 111, 116]⟩ then 4 else 9)
  else if x.kind = 7 then (if x.op = ⟨#[111, 114]⟩ then 2 else if x.op = ⟨#[97, 110, 100]⟩ then 3 else if x.op = ⟨#[43]⟩ ∨ x.op = ⟨#[45]⟩ then 6 else if x.op = ⟨#[42]⟩ ∨ x.op = ⟨#[47]⟩ then 7 else 5)
  else 9
def winT (w : Win) : Str :=
  if w.kind = 2 then ⟨#[115, 108, 105, 100, 105, 110, 103, 32]⟩ ++ intS w.size else if w.kind = 3 then ⟨#[116, 117, 109, 98, 108, 105, 110, 103, 32]⟩ ++ intS w.size
  else if w.kind = 4 then ⟨#[115, 101, 115, 115, 105, 111, 110, 32]⟩ ++ intS w.size else ⟨#[97, 108, 108]⟩
def litT (x : Ex) : Str := if x.val.kind = 5 then ⟨#[64]⟩ ++ (x.name ++ (⟨#[32, 34]⟩ ++ (x.val.s ++ ⟨#[34]⟩))) else valS x.val ++ unitT x.unit
def par (s : Str) : Str := ⟨#[40]⟩ ++ (s ++ ⟨#[41]⟩)
def atF (x : Ex) (T : Nat → Str) (i : Nat) (r : Int) : Str := if rank (x.args.getD i default) < r then par (T i) else T i
def aggT (x : Ex) (T : Nat → Str) : Str :=
  x.op ++ (⟨#[40]⟩ ++ (x.table ++ ((if x.op = cnt then ⟨#[]⟩ else ⟨#[44, 32]⟩ ++ T 0) ++ ((if x.param = 0 then ⟨#[]⟩ else ⟨#[44, 32]⟩ ++ intS x.param)
    ++ (⟨#[44, 32]⟩ ++ (winT x.win ++ ((if x.args.getD 1 default = tru then ⟨#[]⟩ else ⟨#[32, 119, 104, 101, 114, 101, 32]⟩ ++ T 1) ++ ⟨#[41]⟩)))))))
def unT (x : Ex) (T : Nat → Str) : Str :=
  if x.op = ⟨#[45]⟩ then ⟨#[45]⟩ ++ atF x T 0 8 else if x.op = ⟨#[110, 111, 116]⟩ then ⟨#[110, 111, 116, 32]⟩ ++ atF x T 0 4 else ⟨#[110, 117, 108, 108, 40]⟩ ++ (T 0 ++ ⟨#[41]⟩)
def leftR (x : Ex) : Int := if rank x = 5 then 6 else rank x
def binT (x : Ex) (T : Nat → Str) : Str := atF x T 0 (leftR x) ++ (⟨#[32]⟩ ++ (x.op ++ (⟨#[32]⟩ ++ atF x T 1 (rank x + 1))))
def ifT (x : Ex) (T : Nat → Str) : Str := ⟨#[105, 102, 32]⟩ ++ (T 0 ++ (⟨#[32, 116, 104, 101, 110, 32]⟩ ++ (T 1 ++ (⟨#[32, 101, 108, 115, 101, 32]⟩ ++ T 2))))
def defT (x : Ex) (T : Nat → Str) : Str := atF x T 0 1 ++ (⟨#[32, 100, 101, 102, 97, 117, 108, 116, 32]⟩ ++ atF x T 1 2)
def textF (x : Ex) (T : Nat → Str) : Str :=
  if x.kind = 1 then litT x else if x.kind = 4 then x.name ++ (⟨#[32, 111, 102, 32, 40]⟩ ++ (T 0 ++ ⟨#[41]⟩)) else if x.kind = 5 then aggT x T
  else if x.kind = 6 then unT x T else if x.kind = 7 then binT x T else if x.kind = 8 then ifT x T else if x.kind = 9 then defT x T else x.name
mutual
def text : Ex → Str
  | .mk k o n t v u p w ks => textF (.mk k o n t v u p w ks) (fun i => (textL ks).getD i ⟨#[]⟩)
def textL : List Ex → List Str
  | [] => []
  | x :: l => text x :: textL l
end
structure FOK (x : Ex) (ins : Bool) : Prop where
  nb : nodeB x ins
  nn : (x.args.length : Int) = nodeN x
  sub : ∀ y ∈ x.args, form (ins || decide (x.kind = 5)) y = true
  cn : x.kind = 5 → x.op = cnt → x.args.getD 0 default = tru
theorem FOK.of {x : Ex} {ins : Bool} (h : form ins x = true) : FOK x ins := by
  obtain ⟨h1, h2, h3, h4⟩ := (form_iff ins x).1 h
  exact ⟨h1, h2, h3, h4⟩
end Go.Proofs.YtekngilbecjkhaaGreatDoor

/- Texts of expressions: the printer's whole walk. -/
set_option linter.unusedSimpArgs false
set_option linter.unusedVariables false
set_option maxRecDepth 100000
set_option maxHeartbeats 4000000
namespace Go.Proofs.YtekngilbecjkhaaGreatDoor
open Go.Sx Go.Proofs
theorem parts {x : Ex} {ins : Bool} (h : FOK x ins) :
    (x.kind = 1 → litOK x ∧ x.args.length = 0) ∧ (x.kind = 2 ∨ x.kind = 3 → namOK x ∧ x.args.length = 0) ∧ (x.kind = 4 → namOK x ∧ x.args.length = 1) ∧ (x.kind = 5 → aggOK x ∧ x.args.length = 2)
    ∧ (x.kind = 6 → x.args.length = 1 ∧ ∃ y ∈ unL, x.op = y) ∧ (x.kind = 7 → x.args.length = 2 ∧ ∃ y ∈ binL, x.op = y) ∧ (x.kind = 8 → x.args.length = 3) ∧ (x.kind = 9 → x.args.length = 2) := by
  have hb := h.nb
  have hn := h.nn
  unfold nodeB at hb
  unfold nodeN at hn
  refine ⟨fun e => ?_, fun e => ?_, fun e => ?_, fun e => ?_, fun e => ?_, fun e => ?_, fun e => ?_, fun e => ?_⟩
  all_goals grind
end Go.Proofs.YtekngilbecjkhaaGreatDoor

/- Calls that read the caller's blocks; tables. -/
set_option linter.unusedSimpArgs false
set_option linter.unusedVariables false
set_option maxRecDepth 100000
set_option maxHeartbeats 4000000
namespace Go.Sx
structure At (P : Program) [Glob P] (f : FuncId) (xs : List AV) (r : AV) (σ : Store) : Prop where
  sp : Spec P f xs σ fun r' σ' => r' = .ret r ∧ σ' = σ
theorem At.wk {P : Program} [Glob P] {f : FuncId} {xs bs : List AV} {r : AV} {σ : Store} (h : At P f bs r σ) (hw : WkL xs bs) : At P f xs r σ :=
  ⟨fun M w0 w cs hI hR => h.sp M w0 w cs hI (hw.sound hR)⟩
theorem callP_at {P : Program} [Glob P] {f : FuncId} {xs : List AV} {σ : Store} {K : AV → Store → Prop} {E : List PanicEntry → Store → Prop} {r : AV} (h : At P f xs r σ) (k : K r σ) : CallP P f xs σ K E :=
  ⟨_, h.sp, fun _ _ ⟨e, e'⟩ => by cases e; subst e'; exact k, fun _ _ ⟨e, _⟩ => by cases e⟩
theorem At.runk {P : Program} [Glob P] {f : FuncId} {fn : Func} {fc : FC} {xs : List AV} {r : AV} {σ : Store} {a : AC} (cfg : Nat → Nat) (hf : P.funcs[f]? = some fn) (hc : compF P fn = some fc) (ha : fc.code = a.erase) (hlen : xs.length ≤ fc.N)
    (h : WK P fc.N cfg (pureQ fc.res r σ) a [] (argR 0 xs) σ) : At P f xs r σ := by
  have h1 := h.h.h
  rw [← ha] at h1
  refine ⟨?_⟩
  have := Spec.intro (Q := fun r' σ' => ∃ x, r' = .ret x ∧ Wk x r ∧ Sub σ σ') hf hc hlen (h1.mono (fun e rg σ' hq => by
    cases e with
    | normal => obtain ⟨x, h1, h2, h3⟩ := hq; exact ⟨x, h1, x, rfl, h2, h3⟩
    | ret => obtain ⟨x, h1, h2, h3⟩ := hq; exact ⟨x, h1, x, rfl, h2, h3⟩
    | _ => exact hq.elim))
  refine this.weak ?_
  rintro r' σ' ⟨x, rfl, h2, h3⟩
  exact ⟨.ret r, σ, ⟨rfl, rfl⟩, h3, h2⟩
section
variable {P : Program} [Glob P] {cfg : Nat → Nat} {K : Regs → Store → Prop} {E : List PanicEntry → Store → Prop} {σ : Store} {l : List CI} {d : Nat} {v : AV} {xr : XR} {ps : List Prop} {g : Option (Nat × Bool)} {og : Option Bool} {xs : List AV} {args : List Operand}
theorem VX_callA {f : FuncId} {r : AV} (h : argO xr g args = some (og, xs, ps)) (hp : og.getD true = true → At P f xs r σ) (hps : OB ps) (k : VX P cfg l K E (putX og d r xr) σ) : VX P cfg (⟨some d, .call f args, g⟩ :: l) K E xr σ := by
  obtain ⟨hc, he⟩ := argO_eq h
  refine VX_gen hc (fun hg => ?_) (fun hg => ?_)
  · simp only [vcO, he hps hg]
    refine callP_at (hp hg) ?_
    rw [← putX_t hg]; exact k.h
  · rw [← putX_f hg (v := r)]; exact k.h
theorem VX_callvA {f : FuncId} {r fv : AV} {fo : Operand} {a c : Array Value} (h : argO xr g (fo :: args) = some (og, fv :: xs, ps)) (hf : fnO fv = some (f, a, c)) (hcl : callable P f = true) (hp : og.getD true = true → At P f (a.toList.map .v ++ xs ++ c.toList.map .v) r σ) (hps : OB ps) (k : VX P cfg l K E (putX og d r xr) σ) :
    VX P cfg (⟨some d, .callv fo args, g⟩ :: l) K E xr σ := by
  obtain ⟨hc, he⟩ := argO_eq h
  refine VX_gen hc (fun hg => ?_) (fun hg => ?_)
  · have := he hps hg
    simp only [evs, List.cons.injEq] at this
    simp only [vcO, this.1, this.2, fnO_eq hf]
    refine ⟨hcl, callP_at (hp hg) ?_⟩
    rw [← putX_t hg]; exact k.h
  · rw [← putX_f hg (v := r)]; exact k.h
end
theorem Wk.ptr (t b o : Nat) : Wk (.v (.pointer (some ⟨b, o, none⟩))) (.lp t b o) := fun M x h => by
  obtain rfl := h.of_v
  exact .lp t b o
end Go.Sx
namespace Go.Proofs.YtekngilbecjkhaaGreatDoor
open Go.Sx Go.Proofs
def fldErr (prev : List Fld) (f : Fld) : Int := if ¬ Name f.name then 3 else if ∃ x ∈ prev, x.name = f.name then 121 else tyErr f.type
def fldErrL : List Fld → List Fld → Int
  | _, [] => 0
  | prev, f :: l => if fldErr prev f = 0 then fldErrL (prev ++ [f]) l else fldErr prev f
def tabErr (t : Tab) : Int :=
  if ¬ (Name t.name ∧ Name t.entity ∧ 0 ≤ t.keep ∧ t.keep ≤ 1099511627776) then 3 else if t.fields.length > 8 then 2 else fldErrL [] t.fields
theorem fldErrL_ok : ∀ (l p : List Fld), fldErrL p l = 0 → ∀ f ∈ l, Name f.name ∧ tyErr f.type = 0
  | [], _, _, f, hf => absurd hf (by simp)
  | g :: l, p, h, f, hf => by
    rw [fldErrL] at h
    split at h
    · rename_i h0
      rcases List.mem_cons.1 hf with rfl | hf
      · unfold fldErr at h0
        split at h0
        · omega
        · rename_i hn
          split at h0
          · omega
          · exact ⟨Decidable.not_not.1 hn, h0⟩
      · exact fldErrL_ok l _ h f hf
    · rename_i h0; exact absurd h h0
structure TOK (t : Tab) : Prop where
  n : t.name.size ≤ 24
  e : t.entity.size ≤ 24
  k : 0 ≤ t.keep ∧ t.keep ≤ 1099511627776
  l : t.fields.length ≤ 8
  f : ∀ f ∈ t.fields, Name f.name ∧ tyErr f.type = 0
theorem TOK.of {t : Tab} (h : tabErr t = 0) : TOK t := by
  unfold tabErr at h
  split at h
  · omega
  · rename_i h1
    have h1 := Decidable.not_not.1 h1
    split at h
    · omega
    · exact ⟨h1.1.1.2.1, h1.2.1.1.2.1, h1.2.2, by omega, fldErrL_ok _ _ h⟩
end Go.Proofs.YtekngilbecjkhaaGreatDoor
