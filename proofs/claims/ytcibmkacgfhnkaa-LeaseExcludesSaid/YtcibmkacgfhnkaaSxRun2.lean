/-
  The layer Sx, seventeenth part: more rules: loops, calls with weaker arguments, function values, rows of slices.
-/
import Derived.Test.YtcibmkacgfhnkaaSxRun
namespace Go.Sx
open Go.RowKit

/-- The end of a round of a loop. -/
def LoopE (I : Nat → Regs → Store → Prop) (n : Nat) (ks : List Nat) (rg : Regs) (σ : Store) : Prop := ∃ n' rg', n' < n ∧ filtO ks rg = some rg' ∧ I n' rg' σ

section
variable {P : Program} {N : Nat} {cfg : Nat → Nat} {Q : Exit → Regs → Store → Prop} {K : Regs → Store → Prop} {E : List PanicEntry → Store → Prop} {rg rg' : Regs} {σ σ' : Store} {l : List CI} {d : Nat} {op : IOp} {p : Prop} {v : AV}
variable {als cf : List Nat} {ix : Nat} {ld : List CD}

theorem LoopE.intro {I : Nat → Regs → Store → Prop} {n : Nat} {ks : List Nat} (hk : filtO ks rg = some rg') (h : ∃ n', n' < n ∧ I n' rg' σ) : LoopE I n ks rg σ := h.elim fun n' h => ⟨n', rg', h.1, hk, h.2⟩

theorem WA_loopk {ks : List Nat} {b : AC} {rg0 : Regs} (I : Nat → Regs → Store → Prop) (n : Nat) (hk : filtO ks rg = some rg0) (h0 : I n rg0 σ)
    (h : ∀ n rg σ, I n rg σ → WA P N cfg b (thenQ (LoopE I n ks) Q) rg σ) : WA P N cfg (.loop (.keep ks b)) Q rg σ := by
  refine WA_loop (fun n rg σ => ∃ rg', filtO ks rg = some rg' ∧ I n rg' σ) n ⟨rg0, hk, h0⟩ fun n rg σ ⟨rg', hf, hi⟩ => WA_keep hf ((h n rg' σ hi).mono fun e rg2 σ2 he => ?_)
  cases e with
  | normal => obtain ⟨n', rg3, h1, h2, h3⟩ := he; exact ⟨n', h1, rg3, h2, h3⟩
  | _ => exact he

theorem vcL_callw {f : FuncId} {args : List Operand} {as bs : List AV} {r : AV} (h : evsO rg args = some as) (hp : Pure P f bs r) (hw : WkL as bs) (k : VL P cfg l K E ((d, r) :: rg) σ) : VL P cfg (⟨some d, .call f args, none⟩ :: l) K E rg σ :=
  vcL_call h (hp.wk hw) k
theorem vcM_callw {f : FuncId} {args : List Operand} {as bs : List AV} {r : AV} (h : evsO rg args = some as) (hp : Pure P f bs r) (hw : WkL as bs) (k : VM P cfg als ld K ((d, r) :: rg) σ) : VM P cfg als (⟨ix, ⟨some d, .call f args, none⟩, cf⟩ :: ld) K rg σ :=
  vcM_call h (hp.wk hw) k

def fnO (x : AV) : Option (FuncId × Array Value × Array Value) := match x with
  | .v (.func (.func f) a c) => some (f, a, c)
  | _ => none
theorem fnO_eq {x : AV} {f : FuncId} {a c : Array Value} (h : fnO x = some (f, a, c)) : x = .v (.func (.func f) a c) := by
  unfold fnO at h
  split at h
  · cases h; rfl
  · cases h

theorem vcL_callv {fo : Operand} {f : FuncId} {a c : Array Value} {args : List Operand} {as : List AV} {r : AV} (h : evsO rg args = some as) (hf : fnO (ev rg fo) = some (f, a, c)) (hc : callable P f = true) (hp : Pure P f (a.toList.map .v ++ as ++ c.toList.map .v) r) (k : VL P cfg l K E ((d, r) :: rg) σ) : VL P cfg (⟨some d, .callv fo args, none⟩ :: l) K E rg σ := by
  constructor
  simp only [vcL, vcO, fnO_eq hf, evsO_eq h]; exact ⟨hc, callP_pure hp k.h⟩
theorem vcM_callv {fo : Operand} {f : FuncId} {a c : Array Value} {args : List Operand} {as : List AV} {r : AV} (h : evsO rg args = some as) (hf : fnO (ev rg fo) = some (f, a, c)) (hc : callable P f = true) (hp : Pure P f (a.toList.map .v ++ as ++ c.toList.map .v) r) (k : VM P cfg als ld K ((d, r) :: rg) σ) : VM P cfg als (⟨ix, ⟨some d, .callv fo args, none⟩, cf⟩ :: ld) K rg σ := by
  constructor
  simp only [vcM, vcGD, vcOD, IOp.cls, vcOQ, fnO_eq hf, evsO_eq h]; exact ⟨hc, r, hp, k.h⟩

def rowsO (x : AV) : Option (Nat × List (List AV)) := match x with
  | .sl _ e rows => some (e, rows)
  | .own e _ _ _ _ rows => some (e, rows)
  | _ => none
theorem rowsO_eq {x : AV} {e : Nat} {rows : List (List AV)} (h : rowsO x = some (e, rows)) : (∃ nn, x = .sl nn e rows) ∨ ∃ t b u c, x = .own e t b u c rows := by
  unfold rowsO at h
  split at h
  · cases h; exact .inl ⟨_, rfl⟩
  · cases h; exact .inr ⟨_, _, _, _, rfl⟩
  · cases h

def intO (x : AV) : Option Int := match x with
  | .v (.int _ n) => some n
  | _ => none
theorem intO_eq {x : AV} {n : Int} (h : intO x = some n) : ∃ q, x = .v (.int q n) := by
  unfold intO at h
  split at h
  · cases h; exact ⟨_, rfl⟩
  · cases h

theorem vcL_len {α : Type} {f : α → List AV} {ls : List α} {e : Nat} {x : Operand} (hx : rowsO (ev rg x) = some (e, ls.map f)) (k : ls.length ≤ maxLen → VL P cfg l K E ((d, .v (.int .i64 ls.length)) :: rg) σ) : VL P cfg (⟨some d, .len false x, none⟩ :: l) K E rg σ := by
  constructor
  rcases rowsO_eq hx with ⟨nn, h⟩ | ⟨t, b, u, c, h⟩ <;> simp only [vcL, vcO, h, List.length_map] <;> exact fun hl => (k hl).h
theorem vcM_len {α : Type} {f : α → List AV} {ls : List α} {e : Nat} {x : Operand} (hx : rowsO (ev rg x) = some (e, ls.map f)) (k : VM P cfg als ld K ((d, .v (.int .i64 ls.length)) :: rg) σ) : VM P cfg als (⟨ix, ⟨some d, .len false x, none⟩, cf⟩ :: ld) K rg σ := by
  constructor
  rcases rowsO_eq hx with ⟨nn, h⟩ | ⟨t, b, u, c, h⟩ <;> simp only [vcM, vcGD, vcOD, IOp.cls, vcOQ, h, List.length_map] <;> exact k.h

theorem row_get {α : Type} {f : α → List AV} {ls : List α} {n : Int} (h : 0 ≤ n ∧ n < ls.length) : ∃ a, ls[n.toNat]? = some a ∧ (ls.map f).getD n.toNat [] = f a := by
  have hlt : n.toNat < ls.length := by omega
  refine ⟨ls[n.toNat], List.getElem?_eq_getElem hlt, ?_⟩
  simp [List.getD_eq_getElem?_getD, hlt]

theorem vcL_iad {α : Type} {f : α → List AV} {ls : List α} {e : Nat} {x i : Operand} {n : Int} (hi : intO (ev rg i) = some n) (hx : rowsO (ev rg x) = some (e, ls.map f)) (k : ∀ a, ls[n.toNat]? = some a → VL P cfg l K E ((d, .pc (f a)) :: rg) σ) (hb : 0 ≤ n ∧ n < ls.length) :
    VL P cfg (⟨some d, .iaddr e x i, none⟩ :: l) K E rg σ := by
  constructor
  obtain ⟨q, hq⟩ := intO_eq hi
  obtain ⟨a, ha, hg⟩ := row_get (f := f) hb
  have := (k a ha).h
  rcases rowsO_eq hx with ⟨nn, h⟩ | ⟨t, b, u, c, h⟩ <;> simp only [vcL, vcO, hq, h, List.length_map, hg] <;> exact ⟨trivial, hb.1, hb.2, this⟩
theorem vcM_iad {α : Type} {f : α → List AV} {ls : List α} {e : Nat} {x i : Operand} {n : Int} (hi : intO (ev rg i) = some n) (hx : rowsO (ev rg x) = some (e, ls.map f)) (k : ∀ a, ls[n.toNat]? = some a → VM P cfg als ld K ((d, .pc (f a)) :: rg) σ) (hb : 0 ≤ n ∧ n < ls.length) :
    VM P cfg als (⟨ix, ⟨some d, .iaddr e x i, none⟩, cf⟩ :: ld) K rg σ := by
  constructor
  obtain ⟨q, hq⟩ := intO_eq hi
  obtain ⟨a, ha, hg⟩ := row_get (f := f) hb
  have := (k a ha).h
  rcases rowsO_eq hx with ⟨nn, h⟩ | ⟨t, b, u, c, h⟩ <;> simp only [vcM, vcGD, vcOD, IOp.cls, vcOQ, vcO, hq, h, List.length_map, hg] <;> exact ⟨trivial, hb.1, hb.2, this⟩

end

theorem Fin.wk {σ0 σ : Store} {r x : AV} (h : Sub σ0 σ) (w : Wk x r) : Fin σ0 r x σ := ⟨w, h⟩

/-- Slices are not longer than a slice can be. -/
def Bnd : AV → Prop
  | .sl _ _ rows => rows.length ≤ maxLen
  | .own _ _ _ _ _ rows => rows.length ≤ maxLen
  | _ => True

theorem R.bnd {M : Mem} {x : AV} {v : Value} (h : R M x v) : Bnd x := by
  cases h <;> simp only [Bnd] <;> first | omega | simp

def BndL (xs : List AV) : Prop := ∀ x ∈ xs, Bnd x ∧ ∀ l, x = .agg l → ∀ y ∈ l, Bnd y

theorem RL.bnd {M : Mem} : ∀ {xs : List AV} {vs : List Value}, RL M xs vs → BndL xs
  | [], _, _ => fun _ h => by cases h
  | x :: xs, vs, h => by
    obtain ⟨v, vs', rfl, hx, hxs⟩ := h.uncons
    intro y hy
    rcases List.mem_cons.1 hy with rfl | hy
    · refine ⟨hx.bnd, ?_⟩
      rintro l rfl
      obtain ⟨cs, rfl, hl⟩ := hx.of_agg
      intro z hz
      obtain ⟨i, hi, rfl⟩ := List.mem_iff_getElem.1 hz
      exact (hl.2 i hi (by rw [← hl.1]; exact hi)).bnd
    · exact RL.bnd hxs y hy

theorem Spec.bnd {P : Program} {f : FuncId} {as : List AV} {σ : Store} {Q : Res → Store → Prop} (h : BndL as → Spec P f as σ Q) : Spec P f as σ Q :=
  fun M w0 w cs hI hl => h hl.bnd M w0 w cs hI hl
theorem Pure.bnd {P : Program} {f : FuncId} {as : List AV} {r : AV} (h : BndL as → Pure P f as r) : Pure P f as r := ⟨fun σ => Spec.bnd fun hb => (h hb).sp σ⟩

theorem bt {p : Prop} [Decidable p] (h : p) : AV.v (.bool true) = AV.v (.bool (decide p)) := by rw [decide_eq_true h]
theorem bf {p : Prop} [Decidable p] (h : ¬ p) : AV.v (.bool false) = AV.v (.bool (decide p)) := by rw [decide_eq_false h]
theorem be {p q : Prop} [Decidable p] [Decidable q] (h : p ↔ q) : AV.v (.bool (decide p)) = AV.v (.bool (decide q)) := by rw [decide_eq_decide.2 h]

end Go.Sx
