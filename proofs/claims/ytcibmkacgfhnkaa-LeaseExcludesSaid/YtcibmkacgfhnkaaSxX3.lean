/-
  The layer Sx, twentieth part: what is still to come as a list of frames (no term grows with the nesting of the code).
-/
import Derived.Test.YtcibmkacgfhnkaaSxX2
namespace Go.Sx
open Go.RowKit

inductive Fr where
  | seq (b : AC)
  | blk (id : Nat)
  | fn (K : Regs → Store → Prop)

def post (P : Program) (N : Nat) (cfg : Nat → Nat) (Q : Exit → Regs → Store → Prop) : List Fr → Exit → Regs → Store → Prop
  | [] => Q
  | .seq b :: k => thenQ (fun rg σ => WA P N cfg b (post P N cfg Q k) rg σ) (post P N cfg Q k)
  | .blk id :: k => blockQ id (post P N cfg Q k)
  | .fn K :: k => thenQ K (post P N cfg Q k)

structure WK (P : Program) (N : Nat) (cfg : Nat → Nat) (Q : Exit → Regs → Store → Prop) (a : AC) (k : List Fr) (rg : Regs) (σ : Store) : Prop where
  h : WA P N cfg a (post P N cfg Q k) rg σ
structure FK (P : Program) (N : Nat) (cfg : Nat → Nat) (Q : Exit → Regs → Store → Prop) (e : Exit) (k : List Fr) (rg : Regs) (σ : Store) : Prop where
  h : post P N cfg Q k e rg σ

def unw : List Fr → Nat → Option (List Fr)
  | [], _ => none
  | .blk id :: k, i => match Nat.beq i id with
    | true => some k
    | false => unw k i
  | .seq _ :: k, i => unw k i
  | .fn _ :: k, i => unw k i

section
variable {P : Program} {N : Nat} {cfg : Nat → Nat} {Q : Exit → Regs → Store → Prop} {rg rg' : Regs} {σ σ' : Store} {l : List CI} {a b : AC} {k k' : List Fr} {xr : XR} {als : List Nat} {ld : List CD} {ks : List Nat} {id : Nat}

theorem WK_seq (h : WK P N cfg Q a (.seq b :: k) rg σ) : WK P N cfg Q (.seq a b) k rg σ := ⟨WA_seq h.h⟩
theorem WK_block (h : WK P N cfg Q a (.blk id :: k) rg σ) : WK P N cfg Q (.block id a) k rg σ := ⟨WA_block h.h⟩
theorem WK_keep (hk : filtO ks rg = some rg') (h : WK P N cfg Q a k rg' σ) : WK P N cfg Q (.keep ks a) k rg σ := ⟨WA_keep hk h.h⟩
theorem WK_skip (h : FK P N cfg Q .normal k rg σ) : WK P N cfg Q .skip k rg σ := ⟨WA_skip h.h⟩
theorem WK_ret (h : Q .ret rg σ) : WK P N cfg Q .ret k rg σ := by
  refine ⟨WA_ret ?_⟩
  induction k with
  | nil => exact h
  | cons f k ih => cases f <;> exact ih
theorem WK_exit (hu : unw k id = some k') (h : FK P N cfg Q .normal k' rg σ) : WK P N cfg Q (.exit id) k rg σ := by
  refine ⟨WA_exit ?_⟩
  induction k with
  | nil => cases hu
  | cons f k ih =>
    cases f with
    | seq b => exact ih hu
    | fn K => exact ih hu
    | blk i =>
      simp only [unw] at hu
      split at hu
      · rename_i e; cases hu; exact blockQ_t e h.h
      · rename_i e; exact blockQ_f e (ih hu)
theorem WK_cond {x : Operand} {c : Bool} (hx : boolO rg x = some c) (h1 : c = true → WK P N cfg Q a k rg σ) (h2 : c = false → WK P N cfg Q b k rg σ) : WK P N cfg Q (.cond x a b) k rg σ :=
  ⟨WA_cond hx (fun e => (h1 e).h) (fun e => (h2 e).h)⟩
theorem WK_reg (hx : toXO rg = some xr) (h : VX P cfg l (FK P N cfg Q .normal k) (fun ch σ' => FK P N cfg Q (.panic ch) k [] σ') xr σ) : WK P N cfg Q (.reg l) k rg σ :=
  ⟨(WA_regX (Q := fun e => FK P N cfg Q e k) hx h).mono fun _ _ _ h => h.h⟩
theorem WK_mreg (hx : toXO rg = some xr) (h : VY P cfg als ld (Cl (FK P N cfg Q .normal k)) xr σ) : WK P N cfg Q (.mreg als ld) k rg σ :=
  ⟨(WA_mregX (Q := fun e => FK P N cfg Q e k) hx h).mono fun _ _ _ h => h.h⟩
theorem WK_dreg (hx : toXO rg = some xr) (h : VY P cfg [] (bare l) (Cl (FK P N cfg Q .normal k)) xr σ) : WK P N cfg Q (.dreg l) k rg σ :=
  ⟨(WA_dregX (Q := fun e => FK P N cfg Q e k) hx h).mono fun _ _ _ h => h.h⟩
theorem WK_loop {rg0 : Regs} (I : Nat → Regs → Store → Prop) (n : Nat) (hk : filtO ks rg = some rg0) (h0 : ∃ rg' σ', WkRL rg0 rg' ∧ Sub σ' σ ∧ I n rg' σ')
    (h : ∀ n rg σ, I n rg σ → WK P N cfg Q b (.fn (LoopW I n ks) :: k) rg σ) : WK P N cfg Q (.loop (.keep ks b)) k rg σ :=
  ⟨WA_loopw I n hk h0 fun n rg σ hi => (h n rg σ hi).h⟩
/-- From less. -/
theorem WK_wk (h : WK P N cfg Q a k rg' σ') (hr : WkRL rg rg') (hs : Sub σ' σ) : WK P N cfg Q a k rg σ := ⟨WA_wk h.h hr hs⟩

theorem FK_seq (h : WK P N cfg Q b k rg σ) : FK P N cfg Q .normal (.seq b :: k) rg σ := ⟨h.h⟩
theorem FK_blk (h : FK P N cfg Q .normal k rg σ) : FK P N cfg Q .normal (.blk id :: k) rg σ := ⟨h.h⟩
theorem FK_fn {K : Regs → Store → Prop} (h : K rg σ) : FK P N cfg Q .normal (.fn K :: k) rg σ := ⟨h⟩
theorem FK_nil (h : Q .normal rg σ) : FK P N cfg Q .normal [] rg σ := ⟨h⟩

theorem Pure.runk {P : Program} {f : FuncId} {fn : Func} {fc : FC} {as : List AV} {r : AV} {a : AC} (cfg : Nat → Nat) (hf : P.funcs[f]? = some fn) (hc : compF P fn = some fc) (ha : fc.code = a.erase) (hlen : as.length ≤ fc.N)
    (h : ∀ σ, WK P fc.N cfg (pureQ fc.res r σ) a [] (argR 0 as) σ) : Pure P f as r := Pure.run cfg hf hc ha hlen fun σ => (h σ).h
theorem Spec.runk {P : Program} {f : FuncId} {fn : Func} {fc : FC} {as : List AV} {σ : Store} {Q : Res → Store → Prop} {a : AC} (cfg : Nat → Nat) (hf : P.funcs[f]? = some fn) (hc : compF P fn = some fc) (ha : fc.code = a.erase) (hlen : as.length ≤ fc.N)
    (h : WK P fc.N cfg (retQ fc.res Q) a [] (argR 0 as) σ) : Spec P f as σ Q := Spec.run cfg hf hc ha hlen h.h
end
end Go.Sx
