/-
  The layer Sx, sixteenth part: rules by which code is run, one step a rule.
-/
import Derived.Test.YtekngilbecjkhaaGreatDoorSxMix
set_option linter.unusedVariables false
set_option linter.unusedSimpArgs false
set_option linter.unusedSectionVars false
namespace Go.Sx
open Go.RowKit

/-- Annotated code, from registers and a store. -/
structure WA (P : Program) [Glob P] (N : Nat) (cfg : Nat → Nat) (a : AC) (Q : Exit → Regs → Store → Prop) (rg : Regs) (σ : Store) : Prop where
  c : cfg = cfg
  h : SW P N a.erase Q rg σ

structure VL (P : Program) [Glob P] (cfg : Nat → Nat) (l : List CI) (K : Regs → Store → Prop) (E : List PanicEntry → Store → Prop) (rg : Regs) (σ : Store) : Prop where
  h : vcL P cfg l K E rg σ

structure VM (P : Program) [Glob P] (cfg : Nat → Nat) (als : List Nat) (l : List CD) (K : Regs → Store → Prop) (rg : Regs) (σ : Store) : Prop where
  h : vcM P cfg als l K rg σ

def filtO : List Nat → Regs → Option Regs
  | [], _ => some []
  | k :: ks, rg => fo (lk rg k) fun x => match filtO ks rg with
    | some l => some ((k, x) :: l)
    | none => none

theorem filtO_eq : ∀ {ks : List Nat} {rg l : Regs}, filtO ks rg = some l → filt ks rg = l
  | [], _, _, h => by cases h; rfl
  | k :: ks, rg, l, h => by
    have h := fo_eq h
    split at h
    · rename_i l' h'; cases h; simp only [filt, filtO_eq h']
    · cases h

def evsO (rg : Regs) : List Operand → Option (List AV)
  | [] => some []
  | x :: l => fo (ev rg x) fun v => match evsO rg l with
    | some vs => some (v :: vs)
    | none => none

theorem evsO_eq {rg : Regs} : ∀ {l : List Operand} {vs : List AV}, evsO rg l = some vs → evs rg l = vs
  | [], _, h => by cases h; rfl
  | x :: l, vs, h => by
    have h := fo_eq h
    split at h
    · rename_i l' h'; cases h; simp only [evs, evsO_eq h']
    · cases h

def resO (rg : Regs) (σ : Store) (l : List RC) : Option AV := match resA rg σ l with
  | some (.tup xs) => foL xs fun xs => some (.tup xs)
  | some (.agg xs) => foL xs fun xs => some (.agg xs)
  | some x => fo x some
  | none => none

theorem resO_eq {rg : Regs} {σ : Store} {l : List RC} {x : AV} (h : resO rg σ l = some x) : resA rg σ l = some x := by
  unfold resO at h
  split at h
  · rename_i xs e; have := foL_eq h; cases this; exact e
  · rename_i xs e; have := foL_eq h; cases this; exact e
  · rename_i y _ _ e; have := fo_eq h; cases this; exact e
  · cases h

/-- What an operand holds is a bool. -/
def boolO (rg : Regs) (x : Operand) : Option Bool := match ev rg x with
  | .v (.bool b) => some b
  | _ => none

theorem boolO_eq {rg : Regs} {x : Operand} {b : Bool} (h : boolO rg x = some b) : ev rg x = .v (.bool b) := by
  unfold boolO at h
  split at h
  · rename_i e; cases h; exact e
  · cases h

def boolT (rg : Regs) (t : Nat) : Option Bool := match lk rg t with
  | .v (.bool b) => some b
  | _ => none

theorem boolT_eq {rg : Regs} {x : Nat} {b : Bool} (h : boolT rg x = some b) : lk rg x = .v (.bool b) := by
  unfold boolT at h
  split at h
  · rename_i e; cases h; exact e
  · cases h

def isTup (x : AV) : Bool := match x with
  | .v (.tuple _) => true
  | _ => false

section
variable {P : Program} [Glob P] {N : Nat} {cfg : Nat → Nat} {Q : Exit → Regs → Store → Prop} {K : Regs → Store → Prop} {E : List PanicEntry → Store → Prop} {rg rg' : Regs} {σ σ' : Store} {l : List CI} {d : Option Nat} {op : IOp} {p : Prop} {v : AV}

-- code
theorem WA_seq {a b : AC} (h : WA P N cfg a (thenQ (fun rg σ => WA P N cfg b Q rg σ) Q) rg σ) : WA P N cfg (.seq a b) Q rg σ :=
  ⟨rfl, SW_seq (h.h.mono fun e rg' σ' he => by
    cases e with
    | normal => exact he.h
    | _ => exact he)⟩
theorem WA_reg (h : VL P cfg l (Q .normal) (fun ch σ' => Q (.panic ch) [] σ') rg σ) : WA P N cfg (.reg l) Q rg σ := ⟨rfl, SW_reg cfg h.h⟩
theorem WA_mreg {als : List Nat} {l : List CD} (h : VM P cfg als l (Cl (Q .normal)) rg σ) : WA P N cfg (.mreg als l) Q rg σ := ⟨rfl, SW_mregM cfg h.h⟩
theorem WA_dreg (h : VM P cfg [] (bare l) (Cl (Q .normal)) rg σ) : WA P N cfg (.dreg l) Q rg σ := ⟨rfl, SW_dregM cfg h.h⟩
theorem WA_skip (h : Q .normal rg σ) : WA P N cfg .skip Q rg σ := ⟨rfl, SW_skip h⟩
theorem WA_ret (h : Q .ret rg σ) : WA P N cfg .ret Q rg σ := ⟨rfl, SW_ret h⟩
theorem WA_exit {id : Nat} (h : Q (.exit id) rg σ) : WA P N cfg (.exit id) Q rg σ := ⟨rfl, SW_exit h⟩
theorem WA_cond_t {x : Operand} {a b : AC} (hx : boolO rg x = some true) (h : WA P N cfg a Q rg σ) : WA P N cfg (.cond x a b) Q rg σ := ⟨rfl, SW_cond (boolO_eq hx) (fun _ => h.h) (fun e => nomatch e)⟩
theorem WA_cond_f {x : Operand} {a b : AC} (hx : boolO rg x = some false) (h : WA P N cfg b Q rg σ) : WA P N cfg (.cond x a b) Q rg σ := ⟨rfl, SW_cond (boolO_eq hx) (fun e => nomatch e) (fun _ => h.h)⟩
theorem WA_cond {x : Operand} {a b : AC} {c : Bool} (hx : boolO rg x = some c) (h1 : c = true → WA P N cfg a Q rg σ) (h2 : c = false → WA P N cfg b Q rg σ) : WA P N cfg (.cond x a b) Q rg σ := ⟨rfl, SW_cond (boolO_eq hx) (fun e => (h1 e).h) (fun e => (h2 e).h)⟩
theorem WA_block {id : Nat} {a : AC} (h : WA P N cfg a (blockQ id Q) rg σ) : WA P N cfg (.block id a) Q rg σ := ⟨rfl, SW_block h.h⟩
theorem WA_keep {ks : List Nat} {a : AC} (hk : filtO ks rg = some rg') (h : WA P N cfg a Q rg' σ) : WA P N cfg (.keep ks a) Q rg σ := ⟨rfl, SW.filt ks (by rw [filtO_eq hk]; exact h.h)⟩
theorem WA_loop {a : AC} (I : Nat → Regs → Store → Prop) (n : Nat) (h0 : I n rg σ) (h : ∀ n rg σ, I n rg σ → WA P N cfg a (thenQ (fun rg' σ' => ∃ n', n' < n ∧ I n' rg' σ') Q) rg σ) : WA P N cfg (.loop a) Q rg σ :=
  ⟨rfl, SW_loop I n h0 fun n rg σ hi => (h n rg σ hi).h⟩
theorem WA.mono {a : AC} {Q' : Exit → Regs → Store → Prop} (h : WA P N cfg a Q rg σ) (hq : ∀ e rg σ, Q e rg σ → Q' e rg σ) : WA P N cfg a Q' rg σ := ⟨rfl, h.h.mono hq⟩

-- ends
theorem thenQ_n (h : K rg σ) : thenQ K Q .normal rg σ := h
theorem thenQ_r (h : Q .ret rg σ) : thenQ K Q .ret rg σ := h
theorem thenQ_e {id : Nat} (h : Q (.exit id) rg σ) : thenQ K Q (.exit id) rg σ := h
theorem blockQ_n {id : Nat} (h : Q .normal rg σ) : blockQ id Q .normal rg σ := h
theorem blockQ_r {id : Nat} (h : Q .ret rg σ) : blockQ id Q .ret rg σ := h
theorem blockQ_t {id id' : Nat} (e : Nat.beq id' id = true) (h : Q .normal rg σ) : blockQ id Q (.exit id') rg σ := by simp only [blockQ]; rw [if_pos (Nat.eq_of_beq_eq_true e)]; exact h
theorem blockQ_f {id id' : Nat} (e : Nat.beq id' id = false) (h : Q (.exit id') rg σ) : blockQ id Q (.exit id') rg σ := by
  simp only [blockQ]; rw [if_neg (fun k => by subst k; simp [Nat.beq_refl] at e)]; exact h
theorem retQ_n {res : List RC} {R : Res → Store → Prop} (e : resO rg σ res = some v) (h : R (.ret v) σ) : retQ res R .normal rg σ := ⟨v, resO_eq e, h⟩
theorem retQ_r {res : List RC} {R : Res → Store → Prop} (e : resO rg σ res = some v) (h : R (.ret v) σ) : retQ res R .ret rg σ := ⟨v, resO_eq e, h⟩

/-- A value comes to be what was said. -/
def Fin (σ0 : Store) (r : AV) (x : AV) (σ : Store) : Prop := Wk x r ∧ Sub σ0 σ
theorem pureQ_n {res : List RC} {r : AV} {σ0 : Store} (e : resO rg σ res = some v) (h : Fin σ0 r v σ) : pureQ res r σ0 .normal rg σ := ⟨v, resO_eq e, h.1, h.2⟩
theorem pureQ_r {res : List RC} {r : AV} {σ0 : Store} (e : resO rg σ res = some v) (h : Fin σ0 r v σ) : pureQ res r σ0 .ret rg σ := ⟨v, resO_eq e, h.1, h.2⟩
theorem Fin.intro {σ0 : Store} {r x : AV} (h : Sub σ0 σ) (e : x = r) : Fin σ0 r x σ := ⟨Wk.ofeq e, h⟩

-- regions in the order of the text
theorem vcL_nil (h : K rg σ) : VL P cfg [] K E rg σ := ⟨h⟩
theorem vcL_step {d : Nat} (h : detO cfg (some d) rg σ op = some (p, v, σ')) (hp : p) (k : VL P cfg l K E ((d, v) :: rg) σ') : VL P cfg (⟨some d, op, none⟩ :: l) K E rg σ := by
  constructor
  simp only [vcL]; exact detO_sound h hp k.h
theorem vcL_stp {d : Nat} (h : detO cfg (some d) rg σ op = some (p, v, σ')) (k : VL P cfg l K E ((d, v) :: rg) σ') (hp : p) : VL P cfg (⟨some d, op, none⟩ :: l) K E rg σ := vcL_step h hp k
theorem vcL_sto (h : detO cfg none rg σ op = some (p, v, σ')) (hp : p) (k : VL P cfg l K E rg σ') : VL P cfg (⟨none, op, none⟩ :: l) K E rg σ := by
  constructor
  simp only [vcL]; exact detO_sound h hp k.h
theorem vcL_g {t : Nat} {b want : Bool} (hb : boolT rg t = some b) (h1 : b = want → VL P cfg (⟨d, op, none⟩ :: l) K E ((t, .v (.bool want)) :: rg) σ) (h2 : b = !want → VL P cfg l K E (putR d (.v undef) ((t, .v (.bool !want)) :: rg)) σ) : VL P cfg (⟨d, op, some (t, want)⟩ :: l) K E rg σ := by
  constructor
  simp only [vcL, boolT_eq hb]; exact ⟨fun e => by have := (h1 e).h; simpa only [vcL] using this, fun e => (h2 e).h⟩
theorem vcL_gs {t : Nat} {want : Bool} (hb : boolT rg t = some want) (h1 : VL P cfg (⟨d, op, none⟩ :: l) K E ((t, .v (.bool want)) :: rg) σ) : VL P cfg (⟨d, op, some (t, want)⟩ :: l) K E rg σ := vcL_g hb (fun _ => h1) (fun e => by cases want <;> cases e)
theorem vcL_gn {t : Nat} {want b : Bool} (hb : boolT rg t = some b) (hn : (b ^^ want) = true) (h2 : VL P cfg l K E (putR d (.v undef) ((t, .v (.bool !want)) :: rg)) σ) : VL P cfg (⟨d, op, some (t, want)⟩ :: l) K E rg σ := vcL_g hb (fun e => by subst e; cases b <;> cases hn) (fun _ => h2)
theorem vcL_gu {t : Nat} {want : Bool} (hb : isTup (lk rg t) = true) (h2 : VL P cfg l K E (putR d (.v undef) rg) σ) : VL P cfg (⟨d, op, some (t, want)⟩ :: l) K E rg σ := by
  constructor
  unfold isTup at hb
  split at hb
  · rename_i e; simp only [vcL, e]; exact h2.h
  · cases hb
theorem vcL_call {d : Nat} {f : FuncId} {args : List Operand} {as : List AV} {r : AV} (h : evsO rg args = some as) (hp : Pure P f as r) (k : VL P cfg l K E ((d, r) :: rg) σ) : VL P cfg (⟨some d, .call f args, none⟩ :: l) K E rg σ := by
  constructor
  simp only [vcL, vcO, evsO_eq h]; exact callP_pure hp k.h
theorem vcL_spec {f : FuncId} {args : List Operand} {as : List AV} {R : Res → Store → Prop} (h : evsO rg args = some as) (hp : Spec P f as σ R) (k : ∀ x σ', R (.ret x) σ' → VL P cfg l K E (putR d x rg) σ') (e : ∀ ch σ', R (.pan ch) σ' → E ch σ') : VL P cfg (⟨d, .call f args, none⟩ :: l) K E rg σ := by
  constructor
  simp only [vcL, vcO, evsO_eq h]; exact ⟨R, hp, fun x σ' hr => (k x σ' hr).h, e⟩
theorem vcL_alloc {d : Nat} {t : TypeId} {z : Value} {cs : List AV} (h : foL (z.cells.toList.map .v) some = some cs) (k : ∀ b, VL P cfg l K E ((d, .lp d b 0) :: rg) ((d, b, .cells cs) :: σ)) : VL P cfg (⟨some d, .alloc t z, none⟩ :: l) K E rg σ := by
  constructor
  have h := foL_eq h
  cases h
  simp only [vcL, vcO]; exact fun b => (k b).h
def cellO (x : AV) : Option (List AV) := match x.cells? with
  | some l => foL l some
  | none => none
theorem cellO_eq {x : AV} {l : List AV} (h : cellO x = some l) : x.cells? = some l := by
  unfold cellO at h
  split at h
  · rename_i e; have h := foL_eq h; cases h; exact e
  · cases h
theorem vcL_box {d : Nat} {t : TypeId} {x : Operand} {cs : List AV} (h : cellO (ev rg x) = some cs) (k : ∀ b, VL P cfg l K E ((d, .lp d b 0) :: rg) ((d, b, .cells cs) :: σ)) : VL P cfg (⟨some d, .box t x, none⟩ :: l) K E rg σ := by
  constructor
  simp only [vcL, vcO, cellO_eq h]; exact fun b => (k b).h
-- regions whose order is open
variable {als cf : List Nat} {ix : Nat} {ld : List CD}

theorem vcM_nil (h : K rg σ) : VM P cfg als [] (Cl K) rg σ := ⟨Cl.intro h⟩
def okD (als cf : List Nat) (rg : Regs) : IOp → Bool
  | .load a n x => ldOK als cf rg (.load a n x)
  | .store n x y => stOK als cf rg (.store n x y)
  | .box .. | .alloc .. | .append .. | .exts .. => false
  | _ => true

theorem detO_keep {cfg : Nat → Nat} (hc : op.cls = 0) (h : detO cfg d rg σ op = some (p, v, σ')) : σ' = σ := by
  cases op
  case load => cases hc
  case store => cases hc
  case alloc => cases hc
  case box => cases hc
  case append => cases hc
  case exts => cases hc
  case len s x => cases s <;> (simp only [detO] at h; repeat' split at h) <;> cases h <;> rfl
  all_goals simp only [detO, reduceCtorEq] at h
  all_goals (repeat' split at h)
  all_goals first
    | (cases h; done)
    | (cases h; rfl)
    | (have := fo_eq h; cases this; rfl)
    | (have := foL_eq h; cases this; rfl)
    | (have := foLL_eq h; cases this; rfl)
    | (have h2 := (ite_none h).2; (repeat' split at h2) <;> first | (cases h2; done) | (cases h2; rfl) | (have := fo_eq h2; cases this; rfl) | (have := foL_eq h2; cases this; rfl))

theorem detO_Q {K : AV → Prop} (hc : op.cls = 0) (h : detO cfg d rg σ op = some (p, v, σ')) (hp : p) (k : K v) : vcOQ P cfg d rg σ K op := by
  have hs := detO_sound (P := P) (K := fun x _ => K x) (E := fun _ _ => False) h hp k
  cases op with
  | mksl t esz parts =>
    simp only [vcOQ]
    simp only [detO] at h
    split at h
    · rename_i rows e
      rw [e]
      split at h
      · rename_i e2; have := foLL_eq h; cases this; exact ⟨hp, by simp only [e2]; exact k⟩
      · rename_i e2; have := foLL_eq h; cases this; exact ⟨hp, by simp only [e2]; exact k⟩
      · cases h
    · cases h
  | len s x =>
    cases s with
    | true => exact hs
    | false =>
      simp only [vcOQ]
      simp only [detO] at h
      split at h
      · rename_i e; rw [e]; cases h; exact k
      · rename_i e; rw [e]; cases h; exact k
      · rename_i e; rw [e]; cases h; exact k
      · rename_i e; rw [e]; cases h; exact k
      · cases h
  | call f args => cases h
  | callv f args => cases h
  | extq op ty ti args => cases h
  | exts op ty ti args => cases hc
  | box t x => cases hc
  | alloc t x => cases hc
  | store n t x => cases hc
  | append t n k z x y => cases hc
  | load a n x => cases hc
  | _ => exact hs

theorem vcM_step (h : detO cfg d rg σ op = some (p, v, σ')) (ho : okD als cf rg op = true) (hp : p) (k : VM P cfg als ld K (putR d v rg) σ') : VM P cfg als (⟨ix, ⟨d, op, none⟩, cf⟩ :: ld) K rg σ := by
  constructor
  simp only [vcM, vcGD, vcOD]
  cases hc : op.cls with
  | zero =>
    have := detO_keep hc h
    subst this
    exact detO_Q hc h hp k.h
  | succ n =>
    cases op <;> simp only [IOp.cls, reduceCtorEq, Nat.reduceEqDiff, Nat.zero_ne_add_one] at hc <;> simp only [okD, reduceCtorEq] at ho <;> first | cases ho | skip
    · cases hc; exact ⟨ho, detO_sound h hp k.h⟩
    · cases hc; exact ⟨ho, detO_sound h hp k.h⟩
theorem vcM_stp {d : Nat} (h : detO cfg (some d) rg σ op = some (p, v, σ')) (ho : okD als cf rg op = true) (k : VM P cfg als ld K ((d, v) :: rg) σ') (hp : p) : VM P cfg als (⟨ix, ⟨some d, op, none⟩, cf⟩ :: ld) K rg σ := vcM_step h ho hp k
theorem vcM_sto (h : detO cfg none rg σ op = some (p, v, σ')) (ho : okD als cf rg op = true) (hp : p) (k : VM P cfg als ld K rg σ') : VM P cfg als (⟨ix, ⟨none, op, none⟩, cf⟩ :: ld) K rg σ := vcM_step h ho hp k
theorem vcM_alloc {d : Nat} {t : TypeId} {z : Value} {cs : List AV} (h : foL (z.cells.toList.map .v) some = some cs) (k : ∀ b, VM P cfg als ld K ((d, .lp d b 0) :: rg) ((d, b, .cells cs) :: σ)) : VM P cfg als (⟨ix, ⟨some d, .alloc t z, none⟩, cf⟩ :: ld) K rg σ := by
  constructor
  have h := foL_eq h
  cases h
  exact fun b => (k b).h
theorem vcM_box {d : Nat} {t : TypeId} {x : Operand} {cs : List AV} (h : cellO (ev rg x) = some cs) (k : ∀ b, VM P cfg als ld K ((d, .lp d b 0) :: rg) ((d, b, .cells cs) :: σ)) : VM P cfg als (⟨ix, ⟨some d, .box t x, none⟩, cf⟩ :: ld) K rg σ := by
  constructor
  simp only [vcM, vcGD, vcOD, IOp.cls, vcO, cellO_eq h]; exact fun b => (k b).h
theorem vcM_call {d : Nat} {f : FuncId} {args : List Operand} {as : List AV} {r : AV} (h : evsO rg args = some as) (hp : Pure P f as r) (k : VM P cfg als ld K ((d, r) :: rg) σ) : VM P cfg als (⟨ix, ⟨some d, .call f args, none⟩, cf⟩ :: ld) K rg σ := by
  constructor
  simp only [vcM, vcGD, vcOD, IOp.cls, vcOQ, evsO_eq h]; exact ⟨r, hp, k.h⟩
theorem vcM_g {t : Nat} {b want : Bool} (hb : boolT rg t = some b) (ho : (⟨ix, ⟨d, op, some (t, want)⟩, cf⟩ :: ld).all oneOK = true) (h1 : b = want → VM P cfg als (⟨ix, ⟨d, op, none⟩, cf⟩ :: ld) (Cl K) ((t, .v (.bool want)) :: rg) σ) (h2 : b = !want → VM P cfg als ld (Cl K) (putR d (.v undef) ((t, .v (.bool !want)) :: rg)) σ) :
    VM P cfg als (⟨ix, ⟨d, op, some (t, want)⟩, cf⟩ :: ld) (Cl K) rg σ := by
  constructor
  have hb := boolT_eq hb
  rw [List.all_cons, Bool.and_eq_true] at ho
  have hcl := vcM_closed (P := P) (cfg := cfg) (als := als) (Cl.closed K) ld (List.all_eq_true.1 ho.2)
  have ho' : oneOK ⟨ix, ⟨d, op, none⟩, cf⟩ = true := by
    have := ho.1
    unfold oneOK at this ⊢
    simp only [Option.isNone_some, Bool.or_false, Bool.and_eq_true] at this
    simp only [this.1.1, this.1.2, this.2, Option.isNone_none, Bool.or_true, Bool.and_true]
  simp only [vcM, vcGD, hb]
  refine ⟨fun e => ?_, fun e => ?_⟩
  · have := (h1 e).h
    subst e
    simp only [vcM, vcGD] at this
    have h3 := vcGD_local (c := ⟨ix, ⟨d, op, none⟩, cf⟩) (rg' := rg) (fun i _ => lk_self hb i) (K := fun x σ' => vcM P cfg als ld (Cl K) (putR d x ((t, .v (.bool b)) :: rg)) σ') this
    exact vcGD_step ho' h3 fun y σ2 _ hv => hcl _ _ _ _ (fun i => lk_put_congr (lk_self hb) _ _ i) (StEq.refl _) hv
  · subst e
    exact hcl _ _ _ _ (fun i => lk_put_congr (lk_self hb) _ _ i) (StEq.refl _) (h2 rfl).h
theorem vcM_gu {t : Nat} {want : Bool} (hb : isTup (lk rg t) = true) (h2 : VM P cfg als ld K (putR d (.v undef) rg) σ) : VM P cfg als (⟨ix, ⟨d, op, some (t, want)⟩, cf⟩ :: ld) K rg σ := by
  constructor
  unfold isTup at hb
  split at hb
  · rename_i e; simp only [vcM, vcGD, e]; exact h2.h
  · cases hb
end

section
variable {P : Program} [Glob P] {cfg : Nat → Nat} {K : Regs → Store → Prop} {E : List PanicEntry → Store → Prop} {rg : Regs} {σ : Store} {l : List CI} {d : Option Nat} {op : IOp} {als cf : List Nat} {ix : Nat} {ld : List CD}
theorem vcL_gT {t : Nat} {b : Bool} (hb : boolT rg t = some b) (h1 : b = true → VL P cfg (⟨d, op, none⟩ :: l) K E ((t, .v (.bool true)) :: rg) σ) (h2 : b = false → VL P cfg l K E (putR d (.v undef) ((t, .v (.bool false)) :: rg)) σ) : VL P cfg (⟨d, op, some (t, true)⟩ :: l) K E rg σ := vcL_g hb h1 h2
theorem vcL_gF {t : Nat} {b : Bool} (hb : boolT rg t = some b) (h1 : b = false → VL P cfg (⟨d, op, none⟩ :: l) K E ((t, .v (.bool false)) :: rg) σ) (h2 : b = true → VL P cfg l K E (putR d (.v undef) ((t, .v (.bool true)) :: rg)) σ) : VL P cfg (⟨d, op, some (t, false)⟩ :: l) K E rg σ := vcL_g hb h1 h2
theorem vcM_gT {t : Nat} {b : Bool} (hb : boolT rg t = some b) (ho : (⟨ix, ⟨d, op, some (t, true)⟩, cf⟩ :: ld).all oneOK = true) (h1 : b = true → VM P cfg als (⟨ix, ⟨d, op, none⟩, cf⟩ :: ld) (Cl K) ((t, .v (.bool true)) :: rg) σ) (h2 : b = false → VM P cfg als ld (Cl K) (putR d (.v undef) ((t, .v (.bool false)) :: rg)) σ) :
    VM P cfg als (⟨ix, ⟨d, op, some (t, true)⟩, cf⟩ :: ld) (Cl K) rg σ := vcM_g hb ho h1 h2
theorem vcM_gF {t : Nat} {b : Bool} (hb : boolT rg t = some b) (ho : (⟨ix, ⟨d, op, some (t, false)⟩, cf⟩ :: ld).all oneOK = true) (h1 : b = false → VM P cfg als (⟨ix, ⟨d, op, none⟩, cf⟩ :: ld) (Cl K) ((t, .v (.bool false)) :: rg) σ) (h2 : b = true → VM P cfg als ld (Cl K) (putR d (.v undef) ((t, .v (.bool true)) :: rg)) σ) :
    VM P cfg als (⟨ix, ⟨d, op, some (t, false)⟩, cf⟩ :: ld) (Cl K) rg σ := vcM_g hb ho h1 h2
end

theorem skipTF {p : Prop} : true = false → p := fun e => nomatch e
theorem skipFT {p : Prop} : false = true → p := fun e => nomatch e
theorem skipTN {p : Prop} : true = !true → p := fun e => nomatch e
theorem skipFN {p : Prop} : false = !false → p := fun e => nomatch e

/-- A function that only computes, run. -/
theorem Pure.run {P : Program} [Glob P] {f : FuncId} {fn : Func} {fc : FC} {as : List AV} {r : AV} {a : AC} (cfg : Nat → Nat) (hf : P.funcs[f]? = some fn) (hc : compF P fn = some fc) (ha : fc.code = a.erase) (hlen : as.length ≤ fc.N)
    (h : ∀ σ, WA P fc.N cfg a (pureQ fc.res r σ) (argR 0 as) σ) : Pure P f as r :=
  Pure.intro hf hc hlen fun σ => by rw [ha]; exact (h σ).h

theorem Spec.run {P : Program} [Glob P] {f : FuncId} {fn : Func} {fc : FC} {as : List AV} {σ : Store} {Q : Res → Store → Prop} {a : AC} (cfg : Nat → Nat) (hf : P.funcs[f]? = some fn) (hc : compF P fn = some fc) (ha : fc.code = a.erase) (hlen : as.length ≤ fc.N)
    (h : WA P fc.N cfg a (retQ fc.res Q) (argR 0 as) σ) : Spec P f as σ Q :=
  Spec.intro hf hc hlen (by rw [ha]; exact h.h)

end Go.Sx

/-
  The layer Sx, seventeenth part: more rules: loops, calls with weaker arguments, function values, rows of slices.
-/
set_option linter.unusedVariables false
set_option linter.unusedSimpArgs false
set_option linter.unusedSectionVars false
namespace Go.Sx
open Go.RowKit

/-- The end of a round of a loop. -/
def LoopE (I : Nat → Regs → Store → Prop) (n : Nat) (ks : List Nat) (rg : Regs) (σ : Store) : Prop := ∃ n' rg', n' < n ∧ filtO ks rg = some rg' ∧ I n' rg' σ

section
variable {P : Program} [Glob P] {N : Nat} {cfg : Nat → Nat} {Q : Exit → Regs → Store → Prop} {K : Regs → Store → Prop} {E : List PanicEntry → Store → Prop} {rg rg' : Regs} {σ σ' : Store} {l : List CI} {d : Nat} {op : IOp} {p : Prop} {v : AV}
variable {als cf : List Nat} {ix : Nat} {ld : List CD}

theorem LoopE.intro {I : Nat → Regs → Store → Prop} {n : Nat} {ks : List Nat} (hk : filtO ks rg = some rg') (h : ∃ n', n' < n ∧ I n' rg' σ) : LoopE I n ks rg σ := h.elim fun n' h => ⟨n', rg', h.1, hk, h.2⟩

theorem WA_loopk {ks : List Nat} {b : AC} {rg0 : Regs} (I : Nat → Regs → Store → Prop) (n : Nat) (hk : filtO ks rg = some rg0) (h0 : I n rg0 σ)
    (h : ∀ n rg σ, I n rg σ → WA P N cfg b (thenQ (LoopE I n ks) Q) rg σ) : WA P N cfg (.loop (.keep ks b)) Q rg σ := by
  refine WA_loop (fun n rg σ => ∃ rg', filtO ks rg = some rg' ∧ I n rg' σ) n ⟨rg0, hk, h0⟩ fun n rg σ ⟨rg', hf, hi⟩ => WA_keep hf ((h n rg' σ hi).mono fun e rg2 σ2 he => ?_)
  cases e with
  | normal => obtain ⟨n', rg3, h1, h2, h3⟩ := he; exact ⟨n', h1, rg3, h2, h3⟩
  | _ => exact he

theorem vcL_callw {f : FuncId} {args : List Operand} {as bs : List AV} {r : AV} (h : evsO rg args = some as) (hp : Pure P f bs r) (hw : WkL as bs) (k : VL P cfg l K E ((d, r) :: rg) σ) : VL P cfg (⟨some d, .call f args, none⟩ :: l) K E rg σ :=
  vcL_call h (hp.wk hw) k
theorem vcM_callw {f : FuncId} {args : List Operand} {as bs : List AV} {r : AV} (h : evsO rg args = some as) (hp : Pure P f bs r) (hw : WkL as bs) (k : VM P cfg als ld K ((d, r) :: rg) σ) : VM P cfg als (⟨ix, ⟨some d, .call f args, none⟩, cf⟩ :: ld) K rg σ :=
  vcM_call h (hp.wk hw) k

def fnO (x : AV) : Option (FuncId × Array Value × Array Value) := match x with
  | .v (.func (.func f) a c) => some (f, a, c)
  | _ => none
theorem fnO_eq {x : AV} {f : FuncId} {a c : Array Value} (h : fnO x = some (f, a, c)) : x = .v (.func (.func f) a c) := by
  unfold fnO at h
  split at h
  · cases h; rfl
  · cases h

theorem vcL_callv {fo : Operand} {f : FuncId} {a c : Array Value} {args : List Operand} {as : List AV} {r : AV} (h : evsO rg args = some as) (hf : fnO (ev rg fo) = some (f, a, c)) (hc : callable P f = true) (hp : Pure P f (a.toList.map .v ++ as ++ c.toList.map .v) r) (k : VL P cfg l K E ((d, r) :: rg) σ) : VL P cfg (⟨some d, .callv fo args, none⟩ :: l) K E rg σ := by
  constructor
  simp only [vcL, vcO, fnO_eq hf, evsO_eq h]; exact ⟨hc, callP_pure hp k.h⟩
theorem vcM_callv {fo : Operand} {f : FuncId} {a c : Array Value} {args : List Operand} {as : List AV} {r : AV} (h : evsO rg args = some as) (hf : fnO (ev rg fo) = some (f, a, c)) (hc : callable P f = true) (hp : Pure P f (a.toList.map .v ++ as ++ c.toList.map .v) r) (k : VM P cfg als ld K ((d, r) :: rg) σ) : VM P cfg als (⟨ix, ⟨some d, .callv fo args, none⟩, cf⟩ :: ld) K rg σ := by
  constructor
  simp only [vcM, vcGD, vcOD, IOp.cls, vcOQ, fnO_eq hf, evsO_eq h]; exact ⟨hc, r, hp, k.h⟩

def rowsO (x : AV) : Option (Nat × List (List AV)) := match x with
  | .sl _ e rows => some (e, rows)
  | .own e _ _ _ _ rows => some (e, rows)
  | _ => none
theorem rowsO_eq {x : AV} {e : Nat} {rows : List (List AV)} (h : rowsO x = some (e, rows)) : (∃ nn, x = .sl nn e rows) ∨ ∃ t b u c, x = .own e t b u c rows := by
  unfold rowsO at h
  split at h
  · cases h; exact .inl ⟨_, rfl⟩
  · cases h; exact .inr ⟨_, _, _, _, rfl⟩
  · cases h

def intO (x : AV) : Option Int := match x with
  | .v (.int _ n) => some n
  | _ => none
theorem intO_eq {x : AV} {n : Int} (h : intO x = some n) : ∃ q, x = .v (.int q n) := by
  unfold intO at h
  split at h
  · cases h; exact ⟨_, rfl⟩
  · cases h

theorem vcL_len {α : Type} {f : α → List AV} {ls : List α} {e : Nat} {x : Operand} (hx : rowsO (ev rg x) = some (e, ls.map f)) (k : ls.length ≤ maxLen → VL P cfg l K E ((d, .v (.int .i64 ls.length)) :: rg) σ) : VL P cfg (⟨some d, .len false x, none⟩ :: l) K E rg σ := by
  constructor
  rcases rowsO_eq hx with ⟨nn, h⟩ | ⟨t, b, u, c, h⟩ <;> simp only [vcL, vcO, h, List.length_map] <;> exact fun hl => (k hl).h
theorem vcM_len {α : Type} {f : α → List AV} {ls : List α} {e : Nat} {x : Operand} (hx : rowsO (ev rg x) = some (e, ls.map f)) (k : VM P cfg als ld K ((d, .v (.int .i64 ls.length)) :: rg) σ) : VM P cfg als (⟨ix, ⟨some d, .len false x, none⟩, cf⟩ :: ld) K rg σ := by
  constructor
  rcases rowsO_eq hx with ⟨nn, h⟩ | ⟨t, b, u, c, h⟩ <;> simp only [vcM, vcGD, vcOD, IOp.cls, vcOQ, h, List.length_map] <;> exact k.h

theorem row_get {α : Type} {f : α → List AV} {ls : List α} {n : Int} (h : 0 ≤ n ∧ n < ls.length) : ∃ a, ls[n.toNat]? = some a ∧ (ls.map f).getD n.toNat [] = f a := by
  have hlt : n.toNat < ls.length := by omega
  refine ⟨ls[n.toNat], List.getElem?_eq_getElem hlt, ?_⟩
  simp [List.getD_eq_getElem?_getD, hlt]

theorem vcL_iad {α : Type} {f : α → List AV} {ls : List α} {e : Nat} {x i : Operand} {n : Int} (hi : intO (ev rg i) = some n) (hx : rowsO (ev rg x) = some (e, ls.map f)) (k : ∀ a, ls[n.toNat]? = some a → VL P cfg l K E ((d, .pc (f a)) :: rg) σ) (hb : 0 ≤ n ∧ n < ls.length) :
    VL P cfg (⟨some d, .iaddr e x i, none⟩ :: l) K E rg σ := by
  constructor
  obtain ⟨q, hq⟩ := intO_eq hi
  obtain ⟨a, ha, hg⟩ := row_get (f := f) hb
  have := (k a ha).h
  rcases rowsO_eq hx with ⟨nn, h⟩ | ⟨t, b, u, c, h⟩ <;> simp only [vcL, vcO, hq, h, List.length_map, hg] <;> exact ⟨trivial, hb.1, hb.2, this⟩
theorem vcM_iad {α : Type} {f : α → List AV} {ls : List α} {e : Nat} {x i : Operand} {n : Int} (hi : intO (ev rg i) = some n) (hx : rowsO (ev rg x) = some (e, ls.map f)) (k : ∀ a, ls[n.toNat]? = some a → VM P cfg als ld K ((d, .pc (f a)) :: rg) σ) (hb : 0 ≤ n ∧ n < ls.length) :
    VM P cfg als (⟨ix, ⟨some d, .iaddr e x i, none⟩, cf⟩ :: ld) K rg σ := by
  constructor
  obtain ⟨q, hq⟩ := intO_eq hi
  obtain ⟨a, ha, hg⟩ := row_get (f := f) hb
  have := (k a ha).h
  rcases rowsO_eq hx with ⟨nn, h⟩ | ⟨t, b, u, c, h⟩ <;> simp only [vcM, vcGD, vcOD, IOp.cls, vcOQ, vcO, hq, h, List.length_map, hg] <;> exact ⟨trivial, hb.1, hb.2, this⟩

end

theorem Fin.wk {σ0 σ : Store} {r x : AV} (h : Sub σ0 σ) (w : Wk x r) : Fin σ0 r x σ := ⟨w, h⟩

/-- Slices are not longer than a slice can be. -/
def Bnd : AV → Prop
  | .sl _ _ rows => rows.length ≤ maxLen
  | .own _ _ _ _ _ rows => rows.length ≤ maxLen
  | _ => True

theorem R.bnd {M : Mem} {x : AV} {v : Value} (h : R M x v) : Bnd x := by
  cases h <;> simp only [Bnd] <;> first | omega | simp

def BndL (xs : List AV) : Prop := ∀ x ∈ xs, Bnd x ∧ ∀ l, x = .agg l → ∀ y ∈ l, Bnd y

theorem RL.bnd {M : Mem} : ∀ {xs : List AV} {vs : List Value}, RL M xs vs → BndL xs
  | [], _, _ => fun _ h => by cases h
  | x :: xs, vs, h => by
    obtain ⟨v, vs', rfl, hx, hxs⟩ := h.uncons
    intro y hy
    rcases List.mem_cons.1 hy with rfl | hy
    · refine ⟨hx.bnd, ?_⟩
      rintro l rfl
      obtain ⟨cs, rfl, hl⟩ := hx.of_agg
      intro z hz
      obtain ⟨i, hi, rfl⟩ := List.mem_iff_getElem.1 hz
      exact (hl.2 i hi (by rw [← hl.1]; exact hi)).bnd
    · exact RL.bnd hxs y hy

theorem Spec.bnd {P : Program} [Glob P] {f : FuncId} {as : List AV} {σ : Store} {Q : Res → Store → Prop} (h : BndL as → Spec P f as σ Q) : Spec P f as σ Q :=
  fun M w0 w cs hI hl => h hl.bnd M w0 w cs hI hl
theorem Pure.bnd {P : Program} [Glob P] {f : FuncId} {as : List AV} {r : AV} (h : BndL as → Pure P f as r) : Pure P f as r := ⟨fun σ => Spec.bnd fun hb => (h hb).sp σ⟩

theorem bt {p : Prop} [Decidable p] (h : p) : AV.v (.bool true) = AV.v (.bool (decide p)) := by rw [decide_eq_true h]
theorem bf {p : Prop} [Decidable p] (h : ¬ p) : AV.v (.bool false) = AV.v (.bool (decide p)) := by rw [decide_eq_false h]
theorem be {p q : Prop} [Decidable p] [Decidable q] (h : p ↔ q) : AV.v (.bool (decide p)) = AV.v (.bool (decide q)) := by rw [decide_eq_decide.2 h]

end Go.Sx
