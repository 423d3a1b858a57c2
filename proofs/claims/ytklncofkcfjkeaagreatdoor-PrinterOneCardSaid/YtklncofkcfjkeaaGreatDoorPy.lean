
/- Expressions, read back from their texts. -/
import Derived.Test.YtklncofkcfjkeaaGreatDoorPx
set_option linter.unusedSimpArgs false
set_option linter.unusedVariables false
set_option maxRecDepth 100000
namespace Go.Proofs.YtklncofkcfjkeaaGreatDoor
open Go.Sx Go.Proofs
def eat (p i : Bs) : Option Bs := if p.isPrefixOf i = true then some (i.drop p.length) else none
theorem eat_app (p s : Bs) : eat p (p ++ s) = some s := by
  unfold eat
  rw [if_pos (List.isPrefixOf_iff_prefix.2 (List.prefix_append p s)), List.drop_left]
/-- The operators between operands: text, kind, operator, rank. -/
def ops : List (Bs × Int × Str × Int) := [
  ([32, 100, 101, 102, 97, 117, 108, 116, 32], 9, ⟨#[]⟩, 1), ([32, 111, 114, 32], 7, ⟨#[111, 114]⟩, 2), ([32, 97, 110, 100, 32], 7, ⟨#[97, 110, 100]⟩, 3),
  ([32, 61, 61, 32], 7, ⟨#[61, 61]⟩, 5), ([32, 33, 61, 32], 7, ⟨#[33, 61]⟩, 5), ([32, 60, 32], 7, ⟨#[60]⟩, 5), ([32, 60, 61, 32], 7, ⟨#[60, 61]⟩, 5),
  ([32, 43, 32], 7, ⟨#[43]⟩, 6), ([32, 45, 32], 7, ⟨#[45]⟩, 6), ([32, 42, 32], 7, ⟨#[42]⟩, 7), ([32, 47, 32], 7, ⟨#[47]⟩, 7)]
def opOf (i : Bs) : Option (Int × Str × Int × Bs) := ops.findSome? fun e => (eat e.1 i).map fun s => (e.2.1, e.2.2.1, e.2.2.2, s)
def oprR (i : Bs) : Int := match opOf i with
  | some (_, _, q, _) => q
  | none => 0
theorem opOf_rank {i : Bs} {k q : Int} {o : Str} {s : Bs} (h : opOf i = some (k, o, q, s)) : q = 1 ∨ q = 2 ∨ q = 3 ∨ q = 5 ∨ q = 6 ∨ q = 7 := by
  obtain ⟨e, he, h2⟩ := List.exists_of_findSome?_eq_some h
  obtain ⟨t, ht, h3⟩ := Option.map_eq_some_iff.1 h2
  have h4 : e.2.2.2 = q := by simp only [Prod.mk.injEq] at h3; exact h3.2.2.1
  rw [← h4]
  have : ∀ e ∈ ops, e.2.2.2 = 1 ∨ e.2.2.2 = 2 ∨ e.2.2.2 = 3 ∨ e.2.2.2 = 5 ∨ e.2.2.2 = 6 ∨ e.2.2.2 = 7 := by decide
  exact this e he
theorem oprR_cases (i : Bs) : (oprR i = 0 ∧ opOf i = none) ∨ oprR i = 1 ∨ oprR i = 2 ∨ oprR i = 3 ∨ oprR i = 5 ∨ oprR i = 6 ∨ oprR i = 7 := by
  unfold oprR
  split
  · rename_i h; exact .inr (opOf_rank h)
  · rename_i h; exact .inl ⟨rfl, h⟩
def ex0 (k : Int) (o : Str) (ks : List Ex) : Ex := ⟨k, o, ⟨#[]⟩, ⟨#[]⟩, ⟨0, 0, ⟨#[]⟩⟩, [], 0, ⟨0, 0⟩, ks⟩
def exN (k : Int) (n : Str) (ks : List Ex) : Ex := ⟨k, ⟨#[]⟩, n, ⟨#[]⟩, ⟨0, 0, ⟨#[]⟩⟩, [], 0, ⟨0, 0⟩, ks⟩
def exL (n : Str) (v : Val) (u : List Fac) : Ex := ⟨1, ⟨#[]⟩, n, ⟨#[]⟩, v, u, 0, ⟨0, 0⟩, []⟩
def st (l : Bs) : Str := ⟨l.toArray⟩
/-- A unit, if there is one. -/
noncomputable def pUnit (i : Bs) : List Fac × Bs := match eat [32, 91] i with
  | some s => (unitD (upto 93 s).1, (upto 93 s).2)
  | none => ([], i)
noncomputable def pNum (i : Bs) : Ex × Bs :=
  let a := wspan i
  match eat [46] a.2 with
  | some s =>
    let b := wspan s
    let u := pUnit b.2
    (exL ⟨#[]⟩ ⟨3, (num (a.1 ++ b.1) : Nat), ⟨#[]⟩⟩ u.1, u.2)
  | none =>
    let u := pUnit a.2
    (exL ⟨#[]⟩ ⟨2, (num a.1 : Nat), ⟨#[]⟩⟩ u.1, u.2)
def pKey (i : Bs) : Ex × Bs :=
  let a := wspan i
  let b := upto 34 (a.2.drop 2)
  (exL (st a.1) ⟨5, 0, st b.1⟩ [], b.2)
def pText (i : Bs) : Ex × Bs := let b := upto 34 i; (exL ⟨#[]⟩ ⟨4, 0, st b.1⟩ [], b.2)
def pWin (i : Bs) : Win × Bs :=
  let a := wspan i
  if a.1 = [97, 108, 108] then (⟨1, 0⟩, a.2)
  else
    let b := wspan (a.2.drop 1)
    (⟨if a.1 = [115, 108, 105, 100, 105, 110, 103] then 2 else if a.1 = [116, 117, 109, 98, 108, 105, 110, 103] then 3 else 4, (num b.1 : Nat)⟩, b.2)
/-- The number of an aggregate, if it has one. -/
def pPar (w : Bs) (i : Bs) : Int × Bs :=
  if w = [113, 117, 97, 110, 116, 105, 108, 101] ∨ w = [100, 101, 99, 97, 121] then
    let b := wspan (i.drop 2)
    ((num b.1 : Nat), b.2)
  else (0, i)
mutual
noncomputable def pE (r : Int) (ins : Bool) (i : Bs) : Option (Ex × Bs) :=
  (pP ins i) >>= fun q => pL r ins q.1 q.2
  partial_fixpoint
noncomputable def pL (r : Int) (ins : Bool) (x : Ex) (i : Bs) : Option (Ex × Bs) :=
  match opOf i with
  | some (k, o, q, s) => if r ≤ q then (pE (q + 1) ins s) >>= fun y => pL r ins (ex0 k o [x, y.1]) y.2 else some (x, i)
  | none => some (x, i)
  partial_fixpoint
noncomputable def pP (ins : Bool) (i : Bs) : Option (Ex × Bs) :=
  match i with
  | [] => none
  | c :: t =>
    if c = 40 then (pE 0 ins t) >>= fun x => (eat [41] x.2) >>= fun s => some (x.1, s)
    else if c = 45 then (pE 8 ins t) >>= fun x => some (ex0 6 ⟨#[45]⟩ [x.1], x.2)
    else if c = 34 then some (pText t)
    else if c = 64 then some (pKey t)
    else if Dig c.toNat then some (pNum (c :: t))
    else pW ins (wspan (c :: t)).1 (wspan (c :: t)).2
  partial_fixpoint
noncomputable def pW (ins : Bool) (w s : Bs) : Option (Ex × Bs) :=
  if w = [105, 102] then (eat [32] s) >>= fun s => (pE 0 ins s) >>= fun a => (eat [32, 116, 104, 101, 110, 32] a.2) >>= fun s => (pE 0 ins s) >>= fun b => (eat [32, 101, 108, 115, 101, 32] b.2) >>= fun s => (pE 0 ins s) >>= fun c => some (ex0 8 ⟨#[]⟩ [a.1, b.1, c.1], c.2)
  else if w = [110, 111, 116] then (eat [32] s) >>= fun s => (pE 4 ins s) >>= fun x => some (ex0 6 ⟨#[110, 111, 116]⟩ [x.1], x.2)
  else if w = [116, 114, 117, 101] then some (exL ⟨#[]⟩ ⟨1, 1, ⟨#[]⟩⟩ [], s)
  else if w = [102, 97, 108, 115, 101] then some (exL ⟨#[]⟩ ⟨1, 0, ⟨#[]⟩⟩ [], s)
  else if w = [110, 117, 108, 108] then (eat [40] s) >>= fun s => (pE 0 ins s) >>= fun x => (eat [41] x.2) >>= fun s => some (ex0 6 ⟨#[110, 117, 108, 108]⟩ [x.1], s)
  else match eat [40] s with
    | some s =>
      (if w = cnt.data.toList then some (tru, (wspan s).2) else (eat [44, 32] (wspan s).2) >>= fun s => pE 0 true s) >>= fun a =>
        (eat [44, 32] (pPar w a.2).2) >>= fun s2 =>
          (match eat [32, 119, 104, 101, 114, 101, 32] (pWin s2).2 with
            | some s3 => pE 0 true s3
            | none => some (tru, (pWin s2).2)) >>= fun b => (eat [41] b.2) >>= fun s4 =>
              some (⟨5, st w, ⟨#[]⟩, st (wspan s).1, ⟨0, 0, ⟨#[]⟩⟩, [], (pPar w a.2).1, (pWin s2).1, [a.1, b.1]⟩, s4)
    | none => match eat [32, 111, 102, 32, 40] s with
      | some s => (pE 0 ins s) >>= fun x => (eat [41] x.2) >>= fun s => some (exN 4 (st w) [x.1], s)
      | none => some (exN (if ins = true then 2 else 3) (st w) [], s)
  partial_fixpoint
end
end Go.Proofs.YtklncofkcfjkeaaGreatDoor
