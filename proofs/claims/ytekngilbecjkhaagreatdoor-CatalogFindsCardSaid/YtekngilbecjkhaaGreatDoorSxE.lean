/-
  The layer Sx: strings, conversions, maps, functions with what they hold: the rules.
-/
import Derived.Test.YtekngilbecjkhaaGreatDoorSxSt
import Derived.Laws.BytesString
set_option linter.unusedVariables false
set_option linter.unusedSimpArgs false
set_option linter.unusedSectionVars false
namespace Go.Sx
open Go.RowKit
theorem RL.un1 {M : Mem} {x : AV} {vs : List Value} (h : RL M [x] vs) : ∃ v, vs = [v] ∧ R M x v := by
  obtain ⟨v, vs', rfl, h1, h2⟩ := h.uncons
  exact ⟨v, by rw [h2.unnil], h1⟩
section
variable {P : Program} [Glob P] {M : Mem} {w0 w : World} {σ : Store}
end
end Go.Sx

/-
  The layer Sx: maps that a function makes; rules for strings, conversions, maps, functions with what they hold.
-/
set_option linter.unusedVariables false
set_option linter.unusedSimpArgs false
set_option linter.unusedSectionVars false
namespace Go.Sx
open Go.RowKit
section
variable {P : Program} [Glob P] {M : Mem} {w0 w : World} {σ : Store}
theorem OpS_mkmap (tag : Nat) {t ty : TypeId} {ti : List TI} : OpS P (.makeMap t none) ty ti [] [] σ fun x σ' => ∃ b, x = .mpt tag b ∧ σ' = (tag, b, .map [] 0) :: σ := by
  intro _ M w0 w ρ hI _
  refine ⟨.value (.map (some w.heap.size)), w.alloc (.map #[] 0), M, .mpt tag w.heap.size, _, _, ?_, rfl, Mem.le.refl _, ?_, .mpt _ _, _, rfl, rfl⟩
  · simp [execOp, Instr.makeMap, newObj]
    rfl
  · have h' := hI.alloc (.map #[] 0)
    refine ⟨h'.os, h'.tape, h'.output, h'.size, h'.old, h'.imm, fun e he => ?_, ?_, h'.gl, h'.gw⟩
    · rcases List.mem_cons.1 he with rfl | he
      · exact ⟨hI.size, hI.freshM, [], heap_alloc_new _ _, rfl, RL.nil⟩
      · exact h'.st e he
    · simp only [List.map_cons, List.nodup_cons]
      exact ⟨hI.fresh, hI.nd⟩
end
section
variable {P : Program} [Glob P] {N : Nat} {cfg : Nat → Nat} {Q : Exit → Regs → Store → Prop} {K : Regs → Store → Prop} {E : List PanicEntry → Store → Prop} {rg : Regs} {σ σ' : Store} {l : List CI} {d : Nat} {v : AV} {xr xr' : XR} {ps : List Prop}
  {als cf : List Nat} {ix : Nat} {ld : List CD} {g : Option (Nat × Bool)} {og : Option Bool} {as : List AV} {args : List Operand} {op : Op} {ty : TypeId} {ti : List TI}
def byteAt (s : ByteArray) (i : Nat) : UInt8 := s.data.toList.getD i 0
theorem VX_idx {x i : Operand} {s : ByteArray} {iv : AV} {n : Int} (h : argO xr g [x, i] = some (og, [.v (.string s), iv], ps)) (hi : intO iv = some n) (hps : OB ps) (hb : og.getD true = true → 0 ≤ n ∧ n < s.size)
    (k : VX P cfg l K E (putX og d (.v (.int .u8 (byteAt s n.toNat).toNat)) xr) σ) : VX P cfg (⟨some d, .idxs x i, g⟩ :: l) K E xr σ := by
  obtain ⟨hc, he⟩ := argO_eq h
  refine VX_gen hc (fun hg => ?_) (fun hg => ?_)
  · have := he hps hg
    simp only [evs, List.cons.injEq, and_true] at this
    obtain ⟨q, hq⟩ := intO_eq hi
    simp only [vcO, this.1, this.2, hq]
    have hlt := hb hg
    refine ⟨hlt, ?_⟩
    have hk := k.h
    rw [putX_t hg] at hk
    have e : byteAt s n.toNat = s[n.toNat]'(by omega) := by
      have h2 : n.toNat < s.data.toList.length := by rw [Array.length_toList]; have : s.size = s.data.size := rfl; omega
      simp only [byteAt, List.getD_eq_getElem?_getD, List.getElem?_eq_getElem h2, Option.getD_some]
      rfl
    rw [e] at hk
    exact hk
  · rw [← putX_f hg (v := .v (.int .u8 (byteAt s n.toNat).toNat))]; exact k.h
theorem VY_idx {x i : Operand} {s : ByteArray} {iv : AV} {n : Int} (h : argO xr g [x, i] = some (og, [.v (.string s), iv], ps)) (hi : intO iv = some n) (hps : OB ps) (hb : og.getD true = true → 0 ≤ n ∧ n < s.size)
    (k : VY P cfg als ld K (putX og d (.v (.int .u8 (byteAt s n.toNat).toNat)) xr) σ) : VY P cfg als (⟨ix, ⟨some d, .idxs x i, g⟩, cf⟩ :: ld) K xr σ := by
  obtain ⟨hc, he⟩ := argO_eq h
  refine VY_gen hc (fun hg => ?_) (fun hg => ?_)
  · have := he hps hg
    simp only [evs, List.cons.injEq, and_true] at this
    obtain ⟨q, hq⟩ := intO_eq hi
    simp only [vcOD, IOp.cls, vcOQ, vcO, this.1, this.2, hq]
    have hlt := hb hg
    refine ⟨hlt, ?_⟩
    have hk := k.h
    rw [putX_t hg] at hk
    have e : byteAt s n.toNat = s[n.toNat]'(by omega) := by
      have h2 : n.toNat < s.data.toList.length := by rw [Array.length_toList]; have : s.size = s.data.size := rfl; omega
      simp only [byteAt, List.getD_eq_getElem?_getD, List.getElem?_eq_getElem h2, Option.getD_some]
      rfl
    rw [e] at hk
    exact hk
  · rw [← putX_f hg (v := .v (.int .u8 (byteAt s n.toNat).toNat))]; exact k.h
theorem VX_mkmap {t : TypeId} (k : ∀ b, VX P cfg l K E ((d, .s (.mpt d b)) :: xr) ((d, b, .map [] 0) :: σ)) : VX P cfg (⟨some d, .exts (.makeMap t none) ty ti [], none⟩ :: l) K E xr σ := by
  constructor
  simp only [vcX, vcG, vcO, evs]
  refine (OpS_mkmap d).mono fun x σ' ⟨b, e1, e2⟩ => ?_
  subst e1 e2
  exact (k b).h
theorem VX_callc {f : FuncId} {r : AV} {fo : Operand} {a c : List AV} (h : argO xr g (fo :: args) = some (og, .cl f a c :: as, ps)) (hcl : callable P f = true) (hp : og.getD true = true → Pure P f (a ++ as ++ c) r) (hps : OB ps) (k : VX P cfg l K E (putX og d r xr) σ) :
    VX P cfg (⟨some d, .callv fo args, g⟩ :: l) K E xr σ := by
  obtain ⟨hc, he⟩ := argO_eq h
  refine VX_gen hc (fun hg => ?_) (fun hg => ?_)
  · have := he hps hg
    simp only [evs, List.cons.injEq] at this
    simp only [vcO, this.1, this.2]
    refine ⟨hcl, callP_pure (hp hg) ?_⟩
    rw [← putX_t hg]; exact k.h
  · rw [← putX_f hg (v := r)]; exact k.h
theorem VY_callc {f : FuncId} {r : AV} {fo : Operand} {a c : List AV} (h : argO xr g (fo :: args) = some (og, .cl f a c :: as, ps)) (hcl : callable P f = true) (hp : og.getD true = true → Pure P f (a ++ as ++ c) r) (hps : OB ps) (k : VY P cfg als ld K (putX og d r xr) σ) :
    VY P cfg als (⟨ix, ⟨some d, .callv fo args, g⟩, cf⟩ :: ld) K xr σ := by
  obtain ⟨hc, he⟩ := argO_eq h
  refine VY_gen hc (fun hg => ?_) (fun hg => ?_)
  · have := he hps hg
    simp only [evs, List.cons.injEq] at this
    simp only [vcOD, IOp.cls, vcOQ, this.1, this.2]
    refine ⟨hcl, r, hp hg, ?_⟩
    have := k.h; rw [putX_t hg] at this; exact this
  · rw [← putX_f hg (v := r)]; exact k.h
end
end Go.Sx

/- One rule for all calls. -/
set_option linter.unusedVariables false
set_option linter.unusedSectionVars false
namespace Go.Sx
/-- What an operation calls: the guard, the function, its arguments, what is owed. -/
def callO (P : Program) [Glob P] (xr : XR) (g : Option (Nat × Bool)) : IOp → Option (Option Bool × FuncId × List AV × List Prop)
  | .call f args => match argO xr g args with
    | some (og, xs, ps) => some (og, f, xs, ps)
    | none => none
  | .callv fo args => match argO xr g (fo :: args) with
    | some (og, .v (.func (.func f) a c) :: xs, ps) => if callable P f = true then some (og, f, a.toList.map .v ++ xs ++ c.toList.map .v, ps) else none
    | some (og, .cl f a c :: xs, ps) => if callable P f = true then some (og, f, a ++ xs ++ c, ps) else none
    | _ => none
  | _ => none
section
variable {P : Program} [Glob P] {cfg : Nat → Nat} {K : Regs → Store → Prop} {E : List PanicEntry → Store → Prop} {σ : Store} {l : List CI} {d : Nat} {xr : XR} {ps : List Prop} {g : Option (Nat × Bool)} {og : Option Bool} {op : IOp} {f : FuncId} {xs : List AV} {r : AV}
theorem VX_any (h : callO P xr g op = some (og, f, xs, ps)) (hp : og.getD true = true → Pure P f xs r) (hps : OB ps) (k : VX P cfg l K E (putX og d r xr) σ) : VX P cfg (⟨some d, op, g⟩ :: l) K E xr σ := by
  unfold callO at h
  split at h
  · split at h
    · rename_i e
      simp only [Option.some.injEq, Prod.mk.injEq] at h
      obtain ⟨rfl, rfl, rfl, rfl⟩ := h
      exact VX_call e hp hps k
    · cases h
  · split at h
    · rename_i e
      split at h
      · rename_i hcl
        simp only [Option.some.injEq, Prod.mk.injEq] at h
        obtain ⟨rfl, rfl, rfl, rfl⟩ := h
        exact VX_callv e rfl hcl hp hps k
      · cases h
    · rename_i e
      split at h
      · rename_i hcl
        simp only [Option.some.injEq, Prod.mk.injEq] at h
        obtain ⟨rfl, rfl, rfl, rfl⟩ := h
        exact VX_callc e hcl hp hps k
      · cases h
    · cases h
  · cases h
end
section
variable {P : Program} [Glob P] {cfg : Nat → Nat} {K : Regs → Store → Prop} {σ : Store} {d : Nat} {xr : XR} {ps : List Prop} {g : Option (Nat × Bool)} {og : Option Bool} {op : IOp} {f : FuncId} {xs : List AV} {r : AV} {als cf : List Nat} {ix : Nat} {ld : List CD}
theorem VY_any (h : callO P xr g op = some (og, f, xs, ps)) (hp : og.getD true = true → Pure P f xs r) (hps : OB ps) (k : VY P cfg als ld K (putX og d r xr) σ) : VY P cfg als (⟨ix, ⟨some d, op, g⟩, cf⟩ :: ld) K xr σ := by
  unfold callO at h
  split at h
  · split at h
    · rename_i e
      simp only [Option.some.injEq, Prod.mk.injEq] at h
      obtain ⟨rfl, rfl, rfl, rfl⟩ := h
      exact VY_call e hp hps k
    · cases h
  · split at h
    · rename_i e
      split at h
      · rename_i hcl
        simp only [Option.some.injEq, Prod.mk.injEq] at h
        obtain ⟨rfl, rfl, rfl, rfl⟩ := h
        exact VY_callv e rfl hcl hp hps k
      · cases h
    · rename_i e
      split at h
      · rename_i hcl
        simp only [Option.some.injEq, Prod.mk.injEq] at h
        obtain ⟨rfl, rfl, rfl, rfl⟩ := h
        exact VY_callc e hcl hp hps k
      · cases h
    · cases h
  · cases h
end
theorem BL : (∀ (p : Prop) [Decidable p], (decide p = true) = p) ∧ (∀ (p : Prop) [Decidable p], (decide p = false) = ¬ p) ∧ ((!true) = false) ∧ ((!false) = true) ∧ (∀ b : Bool, ((!b) = true) = (b = false)) ∧ (∀ b : Bool, ((!b) = false) = (b = true))
    ∧ (∀ a b : Bool, ((a && b) = true) = (a = true ∧ b = true)) ∧ (∀ a b : Bool, ((a || b) = true) = (a = true ∨ b = true)) ∧ (∀ a b : Bool, ((a && b) = false) = (a = false ∨ b = false)) ∧ (∀ a b : Bool, ((a || b) = false) = (a = false ∧ b = false))
    ∧ (∀ b : Bool, (true && b) = b) ∧ (∀ b : Bool, (b && true) = b) ∧ (∀ b : Bool, (false || b) = b) ∧ (∀ b : Bool, (b || false) = b) ∧ (∀ p : Prop, (True → p) = p) ∧ (∀ n : Nat, (n : Int).toNat = n) ∧ (0 : Int).toNat = 0 ∧ (1 : Int).toNat = 1
    ∧ (∀ b : Bool, (b ^^ true) = !b) ∧ (∀ b : Bool, (b ^^ false) = b)
    ∧ (∀ {α : Type} (a b : α), (a ≠ b) = ¬ (a = b)) ∧ (∀ {α : Type} (a : α), (a = a) = True) ∧ (∀ {α : Type} (a b : α), (some a).getD b = a) ∧ (∀ {α : Type} (b : α), (none : Option α).getD b = b) ∧ (∀ (α : Type) [Nonempty α] (p : Prop), (α → p) = p) := by
  refine ⟨fun p _ => by simp, fun p _ => by simp, rfl, rfl, ?_, ?_, ?_, ?_, ?_, ?_, ?_, ?_, ?_, ?_, fun p => by simp, fun n => by simp, rfl, rfl, ?_, ?_, fun a b => by simp, fun a => by simp, fun a b => rfl, fun b => rfl, fun α _ p => by simp⟩ <;> decide
end Go.Sx

/- Short names for the rules; printed by a program of mine. -/
set_option linter.unusedVariables false
set_option linter.unusedSectionVars false
namespace Go.Sx
theorem OB.r1 {p : Prop} {ps : List Prop} (h : p) (t : OB ps) : OB (p :: ps) := .cons h t
abbrev q0 (d : Nat) (o : IOp) : CI := ⟨some d, o, none⟩
abbrev q1 (d : Nat) (o : IOp) (t : Nat) (b : Bool) : CI := ⟨some d, o, some (t, b)⟩
abbrev ki (n : Int) : Operand := .const (.int .i64 n)
abbrev ks (s : ByteArray) : Operand := .const (.string s)
abbrev kT : Operand := .const (.bool true)
abbrev kF : Operand := .const (.bool false)
theorem kt {x : Bool} {p : Prop} (h : x = true) (k : x = false) : p := by rw [h] at k; cases k
section

theorem OB.k0 {α : Type} {a : α} {ps : List Prop} (t : OB ps) : OB ((a = a) :: ps) := OB.rfl t
theorem OB.k1 {ps : List Prop} (t : OB ps) : OB (True :: ps) := OB.tr t
theorem OB.k2 {α : Type} {a : α} {c : Bool} {ps : List Prop} (t : OB ps) : OB ((c = true → a = a) :: ps) := OB.grfl t
theorem OB.k3 {c : Bool} {ps : List Prop} (t : OB ps) : OB ((c = true → True) :: ps) := OB.gtr t
theorem OB.k4 {a : Prop} {ps : List Prop} (t : OB ps) : OB ((a → a) :: ps) := OB.self t
theorem OB.k5 {a b : Bool} {ps : List Prop} (t : OB ps) : OB (((a && b) = true → a = true) :: ps) := OB.and t
end
section
variable {P : Program} [Glob P] {N : Nat} {cfg : Nat → Nat} {Q : Exit → Regs → Store → Prop} {rg rg' : Regs} {σ σ' : Store} {l : List CI} {a b : AC} {k k' : List Fr} {xr : XR} {als : List Nat} {ld : List CD} {ks : List Nat} {id : Nat}
theorem FK.k0 (h : WK P N cfg Q b k rg σ) : FK P N cfg Q .normal (.seq b :: k) rg σ := FK_seq h
theorem FK.k1 (h : FK P N cfg Q .normal k rg σ) : FK P N cfg Q .normal (.blk id :: k) rg σ := FK_blk h
theorem FK.k2 {K : Regs → Store → Prop} (h : K rg σ) : FK P N cfg Q .normal (.fn K :: k) rg σ := FK_fn h
theorem FK.k3 (h : Q .normal rg σ) : FK P N cfg Q .normal [] rg σ := FK_nil h
theorem WK.k0 (h : WK P N cfg Q a k rg' σ) (hk : filtO ks rg = some rg' := by exact rfl) : WK P N cfg Q (.keep ks a) k rg σ := WK_keep hk h
theorem WK.k1 (h : WK P N cfg Q a (.seq b :: k) rg σ) : WK P N cfg Q (.seq a b) k rg σ := WK_seq h
theorem WK.k2 (h : VX P cfg l (FK P N cfg Q .normal k) (fun ch σ' => FK P N cfg Q (.panic ch) k [] σ') xr σ) (hx : toXO rg = some xr := by exact rfl) : WK P N cfg Q (.reg l) k rg σ := WK_reg hx h
theorem WK.k3 (h : VY P cfg als ld (Cl (FK P N cfg Q .normal k)) xr σ) (hx : toXO rg = some xr := by exact rfl) : WK P N cfg Q (.mreg als ld) k rg σ := WK_mreg hx h
theorem WK.k5 (h : VY P cfg [] (bare l) (Cl (FK P N cfg Q .normal k)) xr σ) (hx : toXO rg = some xr := by exact rfl) : WK P N cfg Q (.dreg l) k rg σ := WK_dreg hx h
theorem WK.k6 (h : WK P N cfg Q a (.blk id :: k) rg σ) : WK P N cfg Q (.block id a) k rg σ := WK_block h
theorem WK.k7 (h : Q .ret rg σ) : WK P N cfg Q .ret k rg σ := WK_ret h
theorem WK.k8 (h : FK P N cfg Q .normal k' rg σ) (hu : unw k id = some k' := by exact rfl) : WK P N cfg Q (.exit id) k rg σ := WK_exit hu h
theorem WK.k9 (h : FK P N cfg Q .normal k rg σ) : WK P N cfg Q .skip k rg σ := WK_skip h
theorem WK.cd {x : Operand} {c : Bool} (h1 : c = true → WK P N cfg Q a k rg σ) (h2 : c = false → WK P N cfg Q b k rg σ) (hx : boolO rg x = some c := by exact rfl) : WK P N cfg Q (.cond x a b) k rg σ := WK_cond hx h1 h2
end
section
variable {P : Program} [Glob P] {N : Nat} {cfg : Nat → Nat} {Q : Exit → Regs → Store → Prop} {rg : Regs} {σ : Store} {k : List Fr} {xr : XR}
theorem WK.k4 {l l1 l2 : List CI} {s : CI} (h : VY P cfg [] (bare l1) (MidO P cfg (FK P N cfg Q .normal k) s l2) xr σ) (hl : cls4 l = some (l1, s, l2) := by exact rfl) (hsp : spOK l l1.length = true := by exact rfl) (hsg : s.g = none := by exact rfl) (hx : toXO rg = some xr := by exact rfl) : WK P N cfg Q (.dreg l) k rg σ := WK_dregO hl hsp hsg hx h
theorem VX.k0 {K : Regs → Store → Prop} {E : List PanicEntry → Store → Prop} {l2 : List CI} (h : VY P cfg [] (bare l2) (Cl K) xr σ) : VX P cfg [] (MidK P cfg l2 K) E xr σ := VX_nilY h
theorem VY.k0 {K : Regs → Store → Prop} {s : CI} {l2 : List CI} (h : VX P cfg [s] (MidK P cfg l2 K) (fun _ _ => False) xr σ) : VY P cfg [] [] (MidO P cfg K s l2) xr σ := VY_midO h
end
section
variable {P : Program} [Glob P] {N : Nat} {cfg : Nat → Nat} {Q : Exit → Regs → Store → Prop} {K : Regs → Store → Prop} {E : List PanicEntry → Store → Prop} {rg : Regs} {σ σ' : Store} {l rest : List CI} {d : Nat} {op : IOp} {p : Prop} {v : AV} {xr xr' : XR} {ps : List Prop} {c : CI} {als cf : List Nat} {ix : Nat} {ld restd : List CD} {cd : CD} {g : Option (Nat × Bool)} {og : Option Bool} {as : List AV} {args : List Operand}
theorem VX.k1 (h : K (den xr) σ) : VX P cfg [] K E xr σ := VX_nil h
theorem VY.k1 (h : K (den xr) σ) : VY P cfg als [] (Cl K) xr σ := VY_nil h
theorem VX.r1 (hp : OB ps) (k : VX P cfg rest K E xr' σ') (_h0 : stopC cfg c.op = false := by exact rfl) (h : runL cfg (c :: l) xr σ [] = some (ps, xr', σ', rest) := by exact rfl) : VX P cfg (c :: l) K E xr σ := VX_run _h0 h hp k
theorem VY.r1 (hp : OB ps) (k : VY P cfg als restd K xr' σ') (_h0 : stopC cfg cd.c.op = false := by exact rfl) (h : runM cfg als (cd :: ld) xr σ [] = some (ps, xr', σ', restd) := by exact rfl) : VY P cfg als (cd :: ld) K xr σ := VY_run _h0 h hp k
theorem VX.l1 {t : TypeId} {z : Value} {cs : List AV} (k : ∀ b, VX P cfg l K E ((d, .s (.lp d b 0)) :: xr) ((d, b, .cells cs) :: σ)) (h : foL (z.cells.toList.map .v) some = some cs := by exact rfl) : VX P cfg (⟨some d, .alloc t z, none⟩ :: l) K E xr σ := VX_alloc h k
theorem VY.l1 {t : TypeId} {z : Value} {cs : List AV} (k : ∀ b, VY P cfg als ld K ((d, .s (.lp d b 0)) :: xr) ((d, b, .cells cs) :: σ)) (h : foL (z.cells.toList.map .v) some = some cs := by exact rfl) : VY P cfg als (⟨ix, ⟨some d, .alloc t z, none⟩, cf⟩ :: ld) K xr σ := VY_alloc h k
theorem VX.l2 {t : TypeId} {esz : Nat} (k : ∀ b, VX P cfg l K E ((d, .s (.own esz d b 0 0 [])) :: xr) ((d, b, .tail 0 0) :: σ)) (hc : cfg d = 1 := by exact rfl) (he : 0 < esz := by decide) : VX P cfg (⟨some d, .mksl t esz [], none⟩ :: l) K E xr σ := VX_mk0 hc he k
theorem VX.m1 {t : TypeId} {x : Operand} {cs : List AV} (k : ∀ b, VX P cfg l K E ((d, .s (.lp d b 0)) :: xr) ((d, b, .cells cs) :: σ)) (hps : OB ps) (h : argO xr none [x] = some (og, [v], ps) := by exact rfl) (hc : cellO v = some cs := by exact rfl) : VX P cfg (⟨some d, .box t x, none⟩ :: l) K E xr σ := VX_box h hc hps k
theorem VY.m1 {t : TypeId} {x : Operand} {cs : List AV} (k : ∀ b, VY P cfg als ld K ((d, .s (.lp d b 0)) :: xr) ((d, b, .cells cs) :: σ)) (hps : OB ps) (h : argO xr none [x] = some (og, [v], ps) := by exact rfl) (hc : cellO v = some cs := by exact rfl) : VY P cfg als (⟨ix, ⟨some d, .box t x, none⟩, cf⟩ :: ld) K xr σ := VY_box h hc hps k
theorem VX.m2 {α : Type} {f : α → List AV} {ls : List α} {e : Nat} {x : Operand} (k : (og.getD true = true → ls.length ≤ maxLen) → VX P cfg l K E (putX og d (.v (.int .i64 ls.length)) xr) σ) (hps : OB ps) (h : argO xr g [x] = some (og, [v], ps) := by exact rfl) (hx : rowsO v = some (e, ls.map f) := by exact rfl) : VX P cfg (⟨some d, .len false x, g⟩ :: l) K E xr σ := VX_len h hx hps k
theorem VX.m3 {rows : List (List AV)} {e : Nat} {x : Operand} (k : (og.getD true = true → rows.length ≤ maxLen) → VX P cfg l K E (putX og d (.v (.int .i64 rows.length)) xr) σ) (hps : OB ps) (h : argO xr g [x] = some (og, [v], ps) := by exact rfl) (hx : rowsO v = some (e, rows) := by exact rfl) : VX P cfg (⟨some d, .len false x, g⟩ :: l) K E xr σ := VX_lenr h hx hps k
theorem VY.r2 {α : Type} {f : α → List AV} {ls : List α} {e : Nat} {x : Operand} (hps : OB ps) (k : VY P cfg als ld K (putX og d (.v (.int .i64 ls.length)) xr) σ) (h : argO xr g [x] = some (og, [v], ps) := by exact rfl) (hx : rowsO v = some (e, ls.map f) := by exact rfl) : VY P cfg als (⟨ix, ⟨some d, .len false x, g⟩, cf⟩ :: ld) K xr σ := VY_len h hx hps k
theorem VX.t1 {α : Type} [Inhabited α] {f : α → List AV} {ls : List α} {e : Nat} {x i : Operand} {iv : AV} {n : Int} (hps : OB ps) (k : VX P cfg l K E (putX og d (.pc (f (ls.getD n.toNat default))) xr) σ) (hb : og.getD true = true → 0 ≤ n ∧ n < ls.length) (h : argO xr g [x, i] = some (og, [v, iv], ps) := by exact rfl) (hi : intO iv = some n := by exact rfl) (hx : rowsO v = some (e, ls.map f) := by exact rfl) : VX P cfg (⟨some d, .iaddr e x i, g⟩ :: l) K E xr σ := VX_iad h hi hx hps k hb
theorem VY.t1 {α : Type} [Inhabited α] {f : α → List AV} {ls : List α} {e : Nat} {x i : Operand} {iv : AV} {n : Int} (hps : OB ps) (k : VY P cfg als ld K (putX og d (.pc (f (ls.getD n.toNat default))) xr) σ) (hb : og.getD true = true → 0 ≤ n ∧ n < ls.length) (h : argO xr g [x, i] = some (og, [v, iv], ps) := by exact rfl) (hi : intO iv = some n := by exact rfl) (hx : rowsO v = some (e, ls.map f) := by exact rfl) : VY P cfg als (⟨ix, ⟨some d, .iaddr e x i, g⟩, cf⟩ :: ld) K xr σ := VY_iad h hi hx hps k hb
theorem VX.u2 {t : TypeId} {esz bytes tg b u c : Nat} {z : List Value} {x y : Operand} {w : AV} {rows rows' : List (List AV)} (hps : OB ps) (hb : (rows.length + rows'.length) * bytes ≤ 35184372088832) (h1 : rows'.all (fun r => r.all AV.one) = true) (k : ∀ b' u' c', VX P cfg l K E ((d, .s (.own esz tg b' u' c' (rows ++ rows'))) :: xr) (upt σ tg b' (.tail u' c'))) (h : argO xr none [x, y] = some (og, [.own esz tg b u c rows, w], ps) := by exact rfl) (hw : rowsV esz w = some rows' := by exact rfl) (hl : lkt σ tg = some (b, .tail u c) := by exact rfl) : VX P cfg (⟨some d, .append t esz bytes z x y, none⟩ :: l) K E xr σ := VX_app h hw hl hps hb h1 k
theorem VX.u3 {t : TypeId} {esz bytes : Nat} {z : List Value} {x y : Operand} {w : AV} {rows rows' : List (List AV)} (hps : OB ps) (hb : (rows.length + rows'.length) * bytes ≤ 35184372088832) (k0 : rows' = [] → VX P cfg l K E ((d, .s (.fl esz rows)) :: xr) σ) (k : rows' ≠ [] → ∀ b u c, VX P cfg l K E ((d, .s (.own esz d b u c (rows ++ rows'))) :: xr) ((d, b, .tail u c) :: σ)) (h : argO xr none [x, y] = some (og, [.fl esz rows, w], ps) := by exact rfl) (hw : rowsV esz w = some rows' := by exact rfl) : VX P cfg (⟨some d, .append t esz bytes z x y, none⟩ :: l) K E xr σ := VX_appf h hw hps hb k0 k
theorem VY.u2 {t : TypeId} {esz bytes tg b u c : Nat} {z : List Value} {x y : Operand} {w : AV} {rows rows' : List (List AV)} (hps : OB ps) (hb : (rows.length + rows'.length) * bytes ≤ 35184372088832) (h1 : rows'.all (fun r => r.all AV.one) = true) (k : ∀ b' u' c', VY P cfg als ld K ((d, .s (.own esz tg b' u' c' (rows ++ rows'))) :: xr) (upt σ tg b' (.tail u' c'))) (h : argO xr none [x, y] = some (og, [.own esz tg b u c rows, w], ps) := by exact rfl) (hw : rowsV esz w = some rows' := by exact rfl) (hl : lkt σ tg = some (b, .tail u c) := by exact rfl) (ha : als.elem d = true := by exact rfl) : VY P cfg als (⟨ix, ⟨some d, .append t esz bytes z x y, none⟩, cf⟩ :: ld) K xr σ := VY_app h hw hl ha hps hb h1 k
theorem VY.u3 {t : TypeId} {esz bytes : Nat} {z : List Value} {x y : Operand} {w : AV} {rows rows' : List (List AV)} (hps : OB ps) (hb : (rows.length + rows'.length) * bytes ≤ 35184372088832) (k0 : rows' = [] → VY P cfg als ld K ((d, .s (.fl esz rows)) :: xr) σ) (k : rows' ≠ [] → ∀ b u c, VY P cfg als ld K ((d, .s (.own esz d b u c (rows ++ rows'))) :: xr) ((d, b, .tail u c) :: σ)) (h : argO xr none [x, y] = some (og, [.fl esz rows, w], ps) := by exact rfl) (hw : rowsV esz w = some rows' := by exact rfl) (ha : als.elem d = true := by exact rfl) : VY P cfg als (⟨ix, ⟨some d, .append t esz bytes z x y, none⟩, cf⟩ :: ld) K xr σ := VY_appf h hw ha hps hb k0 k
theorem VX.r8 (hp : OB ps) (k : VX P cfg l K E xr' σ') (h : stepX cfg (fun _ _ => true) c xr σ [] (fun ps xr σ => some (ps, xr, σ)) = some (ps, xr', σ') := by exact rfl) : VX P cfg (c :: l) K E xr σ := VX_det h hp k
theorem VY.r8 (hp : OB ps) (k : VY P cfg als ld K xr' σ') (h : stepX cfg (okX als cd.cf) cd.c xr σ [] (fun ps xr σ => some (ps, xr, σ)) = some (ps, xr', σ') := by exact rfl) : VY P cfg als (cd :: ld) K xr σ := VY_det h hp k
end
section
variable {P : Program} [Glob P] {N : Nat} {cfg : Nat → Nat} {Q : Exit → Regs → Store → Prop} {K : Regs → Store → Prop} {E : List PanicEntry → Store → Prop} {rg : Regs} {σ σ' : Store} {l : List CI} {d : Nat} {v : AV} {xr xr' : XR} {ps : List Prop} {als cf : List Nat} {ix : Nat} {ld : List CD} {g : Option (Nat × Bool)} {og : Option Bool} {as : List AV} {args : List Operand} {op : Op} {ty : TypeId} {ti : List TI}
theorem VX.l3 {t : TypeId} (k : ∀ b, VX P cfg l K E ((d, .s (.mpt d b)) :: xr) ((d, b, .map [] 0) :: σ)) : VX P cfg (⟨some d, .exts (.makeMap t none) ty ti [], none⟩ :: l) K E xr σ := VX_mkmap k
theorem VX.t5 {x i : Operand} {s : ByteArray} {iv : AV} {n : Int} (hps : OB ps) (hb : og.getD true = true → 0 ≤ n ∧ n < s.size) (k : VX P cfg l K E (putX og d (.v (.int .u8 (byteAt s n.toNat).toNat)) xr) σ) (h : argO xr g [x, i] = some (og, [.v (.string s), iv], ps) := by exact rfl) (hi : intO iv = some n := by exact rfl) : VX P cfg (⟨some d, .idxs x i, g⟩ :: l) K E xr σ := VX_idx h hi hps hb k
theorem VY.t5 {x i : Operand} {s : ByteArray} {iv : AV} {n : Int} (hps : OB ps) (hb : og.getD true = true → 0 ≤ n ∧ n < s.size) (k : VY P cfg als ld K (putX og d (.v (.int .u8 (byteAt s n.toNat).toNat)) xr) σ) (h : argO xr g [x, i] = some (og, [.v (.string s), iv], ps) := by exact rfl) (hi : intO iv = some n := by exact rfl) : VY P cfg als (⟨ix, ⟨some d, .idxs x i, g⟩, cf⟩ :: ld) K xr σ := VY_idx h hi hps hb k
end
section
variable {P : Program} [Glob P] {cfg : Nat → Nat} {K : Regs → Store → Prop} {E : List PanicEntry → Store → Prop} {σ : Store} {l : List CI} {d : Nat} {v : AV} {xr : XR} {ps : List Prop} {g : Option (Nat × Bool)} {og : Option Bool}
theorem VX.t3 {α : Type} {f : α → List AV} {ls : List α} {e : Nat} {nn : Bool} {x y : Operand} {hv : AV} {h : Int} (hps : OB ps) (hb : og.getD true = true → 0 ≤ h ∧ h ≤ ls.length) (k : VX P cfg l K E (putX og d (.sl nn e ((ls.drop h.toNat).map f)) xr) σ) (ha : argO xr g [x, y] = some (og, [v, hv], ps) := by exact rfl) (hi : intO hv = some h := by exact rfl) (hx : slO v = some (nn, e, ls.map f) := by exact rfl) : VX P cfg (⟨some d, .slice e x (some y) none, g⟩ :: l) K E xr σ := VX_sll ha hi hx hps hb k
theorem VX.t4 {α : Type} {f : α → List AV} {ls : List α} {e : Nat} {nn : Bool} {x y z : Operand} {lv hv : AV} {lo h : Int} (hps : OB ps) (hb : og.getD true = true → 0 ≤ lo ∧ lo ≤ h ∧ h ≤ ls.length) (k : VX P cfg l K E (putX og d (.sl nn e (((ls.take h.toNat).drop lo.toNat).map f)) xr) σ) (ha : argO xr g [x, y, z] = some (og, [v, lv, hv], ps) := by exact rfl) (hl : intO lv = some lo := by exact rfl) (hi : intO hv = some h := by exact rfl) (hx : slO v = some (nn, e, ls.map f) := by exact rfl) : VX P cfg (⟨some d, .slice e x (some y) (some z), g⟩ :: l) K E xr σ := VX_slb ha hl hi hx hps hb k
theorem LoopW.k0 {I : Nat → Regs → Store → Prop} {n : Nat} {ks : List Nat} {rg rg1 : Regs} {σ : Store} (h : ∃ n', n' < n ∧ ∃ rg' σ', WkRL rg1 rg' ∧ Sub σ' σ ∧ I n' rg' σ') (hk : filtO ks rg = some rg1 := by exact rfl) : LoopW I n ks rg σ := LoopW.intro hk h
end
section
variable {P : Program} [Glob P] {N : Nat} {cfg : Nat → Nat} {K : Regs → Store → Prop} {E : List PanicEntry → Store → Prop} {σ : Store} {l : List CI} {d n : Nat} {v y : AV} {xr : XR} {ps : List Prop} {g : Option (Nat × Bool)} {og : Option Bool} {als cf : List Nat} {ix : Nat} {ld : List CD} {t b b' o : Nat} {cs cs' ys l' : List AV} {x z : Operand}
end
section
variable {P : Program} [Glob P] {cfg : Nat → Nat} {K : Regs → Store → Prop} {E : List PanicEntry → Store → Prop} {σ : Store} {l : List CI} {d : Nat} {xr : XR} {ps : List Prop} {g : Option (Nat × Bool)} {og : Option Bool} {op : IOp} {f : FuncId} {xs : List AV} {r : AV}
theorem VX.an (h : callO P xr g op = some (og, f, xs, ps)) (hp : og.getD true = true → Pure P f xs r) (hps : OB ps) (k : VX P cfg l K E (putX og d r xr) σ) : VX P cfg (⟨some d, op, g⟩ :: l) K E xr σ := VX_any h hp hps k
end
section
variable {P : Program} [Glob P] {cfg : Nat → Nat} {K : Regs → Store → Prop} {σ : Store} {d : Nat} {xr : XR} {ps : List Prop} {g : Option (Nat × Bool)} {og : Option Bool} {op : IOp} {f : FuncId} {xs : List AV} {r : AV} {als cf : List Nat} {ix : Nat} {ld : List CD}
theorem VY.an (h : callO P xr g op = some (og, f, xs, ps)) (hp : og.getD true = true → Pure P f xs r) (hps : OB ps) (k : VY P cfg als ld K (putX og d r xr) σ) : VY P cfg als (⟨ix, ⟨some d, op, g⟩, cf⟩ :: ld) K xr σ := VY_any h hp hps k
end
section
variable {α : Type}
theorem retQ.r1 {rg : Regs} {σ : Store} {v : AV} {ps : List Prop} {res : List RC} {R : Res → Store → Prop} (hp : OB ps) (h : R (.ret v) σ) (e : resK rg σ res = some (ps, v) := by exact rfl) : retQ res R .ret rg σ := retQk_r e hp h
theorem retQ.r2 {rg : Regs} {σ : Store} {v : AV} {ps : List Prop} {res : List RC} {R : Res → Store → Prop} (hp : OB ps) (h : R (.ret v) σ) (e : resK rg σ res = some (ps, v) := by exact rfl) : retQ res R .normal rg σ := retQk_n e hp h
theorem pureQ.r1 {rg : Regs} {σ σ0 : Store} {v r : AV} {ps : List Prop} {res : List RC} (hp : OB ps) (h : Fin σ0 r v σ) (e : resK rg σ res = some (ps, v) := by exact rfl) : pureQ res r σ0 .ret rg σ := pureQk_r e hp h
theorem pureQ.r2 {rg : Regs} {σ σ0 : Store} {v r : AV} {ps : List Prop} {res : List RC} (hp : OB ps) (h : Fin σ0 r v σ) (e : resK rg σ res = some (ps, v) := by exact rfl) : pureQ res r σ0 .normal rg σ := pureQk_n e hp h
end
end Go.Sx
