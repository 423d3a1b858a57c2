/-
  The layer Sx, twelfth part: code with remarks for the proof: which registers are kept, where to stop.
-/
import Derived.Test.YtcibmkacgfhnkaaSxMix3
namespace Go.Sx
open Go.RowKit

inductive AC where
  | skip
  | reg (l : List CI)
  | dreg (l : List CI)
  | mreg (als : List Nat) (l : List CD)
  | seq (a b : AC)
  | cond (c : Operand) (t e : AC)
  | block (id : Nat) (b : AC)
  | loop (b : AC)
  | exit (id : Nat)
  | ret
  | keep (ks : List Nat) (a : AC)
  | stop (a : AC)

def AC.erase : AC → SC
  | .skip => .skip
  | .reg l => .reg l
  | .dreg l => .dreg l
  | .mreg als l => .mreg als l
  | .seq a b => .seq a.erase b.erase
  | .cond c t e => .cond c t.erase e.erase
  | .block id b => .block id b.erase
  | .loop b => .loop b.erase
  | .exit id => .exit id
  | .ret => .ret
  | .keep _ a => a.erase
  | .stop a => a.erase

/-- A place where the proof goes on by hand. -/
def Stop (P : Program) (N : Nat) (a : AC) (Q : Exit → Regs → Store → Prop) (rg : Regs) (σ : Store) : Prop := SW P N a.erase Q rg σ

def vcA (P : Program) (N : Nat) (cfg : Nat → Nat) : AC → (Exit → Regs → Store → Prop) → Regs → Store → Prop
  | .skip, Q, rg, σ => Q .normal rg σ
  | .reg l, Q, rg, σ => vcL P cfg l (Q .normal) (fun ch σ' => Q (.panic ch) [] σ') rg σ
  | .dreg l, Q, rg, σ => vcQ P cfg l (fun rg' => Q .normal rg' σ) rg σ
  | .mreg als l, Q, rg, σ => vcM P cfg als l (Q .normal) rg σ
  | .seq a b, Q, rg, σ => vcA P N cfg a (thenQ (vcA P N cfg b Q) Q) rg σ
  | .cond c t e, Q, rg, σ => match ev rg c with
    | .v (.bool b) => Gd b true (vcA P N cfg t Q rg σ) (vcA P N cfg e Q rg σ)
    | _ => False
  | .block id b, Q, rg, σ => vcA P N cfg b (blockQ id Q) rg σ
  | .loop b, Q, rg, σ => Stop P N (.loop b) Q rg σ
  | .exit id, Q, rg, σ => Q (.exit id) rg σ
  | .ret, Q, rg, σ => Q .ret rg σ
  | .keep ks a, Q, rg, σ => vcA P N cfg a Q (filt ks rg) σ
  | .stop a, Q, rg, σ => Stop P N a Q rg σ

theorem vcA_sound {P : Program} {N : Nat} (cfg : Nat → Nat) : ∀ (a : AC) (Q : Exit → Regs → Store → Prop) (rg : Regs) (σ : Store), vcA P N cfg a Q rg σ → SW P N a.erase Q rg σ
  | .skip, Q, rg, σ, h => SW_skip h
  | .reg l, Q, rg, σ, h => SW_reg cfg h
  | .dreg l, Q, rg, σ, h => SW_dreg cfg h
  | .mreg als l, Q, rg, σ, h => SW_mreg cfg h
  | .seq a b, Q, rg, σ, h => SW_seq ((vcA_sound cfg a _ rg σ h).mono fun e rg' σ' he => by
      cases e with
      | normal => exact vcA_sound cfg b Q rg' σ' he
      | _ => exact he)
  | .cond c t e, Q, rg, σ, h => by
    simp only [vcA] at h
    split at h
    · rename_i b hb
      exact SW_cond hb (fun hb => vcA_sound cfg t Q rg σ (h.l hb)) (fun hb => vcA_sound cfg e Q rg σ (h.r hb))
    · exact h.elim
  | .block id b, Q, rg, σ, h => SW_block (vcA_sound cfg b _ rg σ h)
  | .loop b, Q, rg, σ, h => h
  | .exit id, Q, rg, σ, h => SW_exit h
  | .ret, Q, rg, σ, h => SW_ret h
  | .keep ks a, Q, rg, σ, h => SW.filt ks (vcA_sound cfg a Q _ σ h)
  | .stop a, Q, rg, σ, h => h

theorem Stop.run {P : Program} {N : Nat} (cfg : Nat → Nat) {a : AC} {Q : Exit → Regs → Store → Prop} {rg : Regs} {σ : Store} (h : vcA P N cfg a Q rg σ) : Stop P N a Q rg σ := vcA_sound cfg a Q rg σ h

/-- A loop: what holds at its head (of the registers that are kept, too), with a number that goes down. -/
theorem Stop.loop {P : Program} {N : Nat} {b : AC} {Q : Exit → Regs → Store → Prop} {rg : Regs} {σ : Store} (cfg : Nat → Nat) (I : Nat → Regs → Store → Prop) (n : Nat) (h0 : I n rg σ)
    (h : ∀ n rg σ, I n rg σ → vcA P N cfg b (thenQ (fun rg' σ' => ∃ n', n' < n ∧ I n' rg' σ') Q) rg σ) : Stop P N (.loop b) Q rg σ :=
  SW_loop I n h0 fun n rg σ hi => vcA_sound cfg b _ rg σ (h n rg σ hi)

theorem Stop.mono {P : Program} {N : Nat} {a : AC} {Q Q' : Exit → Regs → Store → Prop} {rg : Regs} {σ : Store} (h : Stop P N a Q rg σ) (hq : ∀ e rg σ, Q e rg σ → Q' e rg σ) : Stop P N a Q' rg σ := SW.mono h hq

/-- A function that only computes, by its annotated code. -/
theorem Pure.auto {P : Program} {f : FuncId} {fn : Func} {fc : FC} {as : List AV} {r : AV} {a : AC} (cfg : Nat → Nat) (hf : P.funcs[f]? = some fn) (hc : compF P fn = some fc) (ha : fc.code = a.erase) (hlen : as.length ≤ fc.N)
    (h : ∀ σ, vcA P fc.N cfg a (pureQ fc.res r σ) (argR 0 as) σ) : Pure P f as r :=
  Pure.intro hf hc hlen fun σ => by rw [ha]; exact vcA_sound cfg a _ _ σ (h σ)

theorem Spec.auto {P : Program} {f : FuncId} {fn : Func} {fc : FC} {as : List AV} {σ : Store} {Q : Res → Store → Prop} {a : AC} (cfg : Nat → Nat) (hf : P.funcs[f]? = some fn) (hc : compF P fn = some fc) (ha : fc.code = a.erase) (hlen : as.length ≤ fc.N)
    (h : vcA P fc.N cfg a (retQ fc.res Q) (argR 0 as) σ) : Spec P f as σ Q :=
  Spec.intro hf hc hlen (by rw [ha]; exact vcA_sound cfg a _ _ σ h)

theorem stop_congr {P : Program} {N : Nat} {a : AC} {Q : Exit → Regs → Store → Prop} {rg rg' : Regs} {σ σ' : Store} (h : rg = rg') (k : σ = σ') : Stop P N a Q rg σ = Stop P N a Q rg' σ' := by rw [h, k]
attribute [congr] stop_congr
attribute [congr] callP_congr
attribute [congr] qcall_congr

theorem Wk_self (x : AV) : Wk x x = True := eq_true (Wk.refl x)
theorem Sub_self (σ : Store) : Sub σ σ = True := eq_true (Sub.refl σ)
end Go.Sx
