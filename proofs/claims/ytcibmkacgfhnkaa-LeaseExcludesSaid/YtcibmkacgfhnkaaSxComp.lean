/-
  The layer Sx, third part: how operations are compiled, and that their conditions are sound.
-/
import Derived.Test.YtcibmkacgfhnkaaSxOps
namespace Go.Sx
open Go.RowKit

def aggT (P : Program) (t : TypeId) : Option (Bool × Nat) :=
  match P.underlying t, P.info? t with
  | some (.struct _), some i | some (.array _ _), some i => some (true, i.size)
  | some _, some i => some (false, i.size)
  | _, _ => none

def placesS (P : Program) (fs : List Field) : List (Nat × Operand) → Option (List (Nat × Nat × Operand))
  | [] => some []
  | (i, x) :: l => match fs[i]? with
    | some f => match P.info? f.type with
      | some k => (placesS P fs l).map ((f.offset, k.size, x) :: ·)
      | none => none
    | none => none

def leafKs (P : Program) (n : Nat) : List Field → Option (List LeafK)
  | [] => some []
  | f :: fs => if f.name ≠ "_" ∧ f.offset = n then
      match P.underlying f.type with
      | some (.int _) => (leafKs P (n + 1) fs).map (.int :: ·)
      | some .string => (leafKs P (n + 1) fs).map (.str :: ·)
      | some .bool => (leafKs P (n + 1) fs).map (.bool :: ·)
      | _ => none
    else none

def compEq (P : Program) (neg : Bool) (t : TypeId) (x y : Operand) : Option IOp :=
  match P.underlying t with
  | some (.int _) | some .string => some (.bin (if neg then .neq else .eql) x y)
  | some (.struct fs) => if P.stoodInHeld t = false ∧ P.eqGuardType P.depth t = false then (leafKs P 0 fs.toList).map fun ks => .eqs neg ks x y else none
  | some .bool => some (.eqb neg .bool x y)
  | some (.slice _) => some (.eqb neg .slice x y)
  | some (.map _ _) => some (.eqb neg .map x y)
  | some (.func _ _ _) => some (.eqb neg .func x y)
  | some (.pointer _) => some (.eqb neg .ptr x y)
  | _ => none

def compCall (P : Program) (c : Call) : Option IOp :=
  match c.callee with
  | .value (.func f) => if callable P f then some (.call f c.args.toList) else none
  | .value f => some (.callv f c.args.toList)
  | .builtin .len => match c.args.toList, c.argTypes.toList with
    | [x], [t] => match P.underlying t with
      | some .string => some (.len true x)
      | some (.slice _) => some (.len false x)
      | _ => none
    | _, _ => none
  | .builtin .append => match c.args.toList, c.argTypes.toList with
    | [x, y], [t, u] => match P.underlying t, P.underlying u with
      | some (.slice e), some (.slice _) => match P.info? e with
        | some i => match i.zero with
          | some z => if 0 < i.size ∧ 0 < i.bytes ∧ z.cells.size = i.size then some (.append e i.size i.bytes z.cells.toList x y) else none
          | none => none
        | none => none
      | _, _ => none
    | _, _ => none
  | .builtin .max => match c.args.toList with
    | [x, y] => some (.max2 x y)
    | _ => none
  | .builtin .min => match c.args.toList with
    | [x, y] => some (.min2 x y)
    | _ => none
  | _ => none

def compO (P : Program) (o : Oper) : Option IOp :=
  match o.op with
  | .move x | .assign x => some (.mv x)
  | .pick c a b => some (.pick c a b)
  | .alloc e => match P.info? e with
    | some i => i.zero.map (.alloc e ·)
    | none => none
  | .box e x => some (.box e x)
  | .build t parts => match P.underlying t, P.info? t with
    | some (.struct fs), some i => if fs.toList.all (fun f => (P.info? f.type).isSome) then
        match i.zero, placesS P fs.toList parts.toList with
        | some z, some ps => some (.build z.cells.toList ps)
        | _, _ => none
      else none
    | _, _ => none
  | .buildSlice t n parts => match P.underlying t with
    | some (.slice e) => match P.info? e with
      | some i => match i.zero with
        | some z => if parts.toList.map (·.1) = List.range n ∧ n * i.size ≤ 16777216 ∧ z.cells.size = i.size then some (.mksl e i.size (parts.toList.map (·.2))) else none
        | none => none
      | none => none
    | _ => none
  | .load t x => (aggT P t).map fun (g, n) => .load g n x
  | .store t x v => (aggT P t).map fun (_, n) => .store n x v
  | .nilCheck x => some (.nilck x)
  | .binOp .eql t x y _ => compEq P false t x y
  | .binOp .neq t x y _ => compEq P true t x y
  | .binOp op _ x y _ => some (.bin op x y)
  | .unOp op _ x => some (.un op x)
  | .convert src dst x => match P.underlying src, P.underlying dst with
    | some (.int _), some (.int k) => some (.cvint k x)
    | some .string, some .string => some (.cvstr x)
    | _, _ => none
  | .makeInterface t x => match P.underlying t with
    | some (.interface _) => none
    | some _ => some (.mkifc t x)
    | none => none
  | .makeFunc fn first captured => some (.mkfn fn first.toList captured.toList)
  | .slice t x lo hi none => match P.underlying t with
    | some (.slice e) => match P.info? e with
      | some i => some (.slice i.size x lo hi)
      | none => none
    | _ => none
  | .fieldAddr t x i => match P.underlying t with
    | some (.struct fs) => match fs[i]? with
      | some f => match P.info? f.type with
        | some k => if k.size ≠ 0 then some (.faddr f.offset x) else none
        | none => none
      | none => none
    | _ => none
  | .field t x i => match P.underlying t with
    | some (.struct fs) => match fs[i]? with
      | some f => (aggT P f.type).map fun (g, n) => .field g f.offset n x
      | none => none
    | _ => none
  | .indexAddr t x i => match P.underlying t with
    | some (.slice e) => match P.info? e with
      | some k => some (.iaddr k.size x i)
      | none => none
    | some (.array n e) => match P.info? e with
      | some k => some (.iaddrA n k.size x i)
      | none => none
    | _ => none
  | .index t x i => match P.underlying t with
    | some .string => some (.idxs x i)
    | _ => none
  | .extract x i => some (.extract x i)
  | .call c => compCall P c
  | _ => none

/-- What a piece of code gives: a value, in a world that the invariant still holds of. -/
def Gives (M : Mem) (w0 : World) (K : AV → Store → Prop) (r : Result Value) : Prop :=
  ∃ v w' M' x σ', r = .ok v w' ∧ M.le M' ∧ Inv M' w0 σ' w' ∧ R M' x v ∧ K x σ'

section
variable {P : Program} {M : Mem} {w0 w : World} {σ : Store} {K : AV → Store → Prop} {rg : Regs} {a : Act}

theorem Gives.same (hI : Inv M w0 σ w) {x : AV} {v : Value} (hr : R M x v) (hk : K x σ) {r : Result Value} (e : r = .ok v w) : Gives M w0 K r :=
  ⟨v, w, M, x, σ, e, Mem.le.refl _, hI, hr, hk⟩

theorem run_under {t : TypeId} {d : TypeDesc} (h : P.underlying t = some d) (w : World) : (underlying t).run P w = .ok d w := run_underlying h w
theorem run_info {t : TypeId} {i : TypeInfo} (h : P.info? t = some i) (w : World) : (typeInfo t).run P w = .ok i w := by simp [typeInfo, h]
theorem run_size {t : TypeId} {i : TypeInfo} (h : P.info? t = some i) (w : World) : (sizeOf t).run P w = .ok i.size w := by simp [sizeOf, run_info h]
theorem run_zero {t : TypeId} {i : TypeInfo} {z : Value} (h : P.info? t = some i) (hz : i.zero = some z) (w : World) : (zeroValue t).run P w = .ok z w := by simp [zeroValue, run_info h, hz]

theorem aggT_run {t : TypeId} {g : Bool} {n : Nat} (h : aggT P t = some (g, n)) (w : World) : (isAgg t).run P w = .ok g w ∧ (sizeOf t).run P w = .ok n w := by
  unfold aggT at h
  split at h
  · rename_i fs i h1 h2
    simp only [Option.some.injEq, Prod.mk.injEq] at h
    obtain ⟨rfl, rfl⟩ := h
    exact ⟨by simp [isAgg, run_under h1], run_size h2 w⟩
  · rename_i m e i h1 h2
    simp only [Option.some.injEq, Prod.mk.injEq] at h
    obtain ⟨rfl, rfl⟩ := h
    exact ⟨by simp [isAgg, run_under h1], run_size h2 w⟩
  · rename_i d i h3 h4 h1 h2
    simp only [Option.some.injEq, Prod.mk.injEq] at h
    obtain ⟨rfl, rfl⟩ := h
    refine ⟨?_, run_size h2 w⟩
    cases d <;> simp [isAgg, run_under h1] <;> first | exact (h3 _ rfl).elim | exact (h4 _ _ rfl).elim
  · simp at h

theorem Inv.cell {tg b : Nat} {l : List AV} (hI : Inv M w0 σ w) (hb : lkt σ tg = some (b, .cells l)) {o : Nat} {y : AV} (hy : l[o]? = some y) :
    ∃ v, w.cell? ⟨b, o, none⟩ = some v ∧ R M y v := by
  obtain ⟨_, _, cs, t, hh, hl⟩ := hI.st _ (lkt_mem hb)
  obtain ⟨v, hv, hr⟩ := hl.get hy
  exact ⟨v, by simp [World.cell?, hh]; simpa using hv, hr⟩

/-- A load of cells, one after the other. -/
theorem run_loads (b o n : Nat) (cs : List Value) (hn : cs.length = n) (h : ∀ i (hi : i < cs.length), w.cell? ⟨b, o + i, none⟩ = some cs[i]) : (loadCells ⟨b, o, none⟩ n).run P w = .ok cs.toArray w := by
  subst hn
  have := run_loadCells_list (P := P) (w := w) ⟨b, o, none⟩ cs (fun j v hv => by
    obtain ⟨hj, rfl⟩ := List.getElem?_eq_some_iff.1 hv
    rw [Addr.add_lit]; exact h j hj)
  simpa using this

theorem s_load_cells {agg : Bool} {n b o : Nat} {t : TypeId} (ht : aggT P t = some (agg, n)) (xs : List AV) (hx : ∀ i y, xs[i]? = some y → ∃ v, w.cell? ⟨b, o + i, none⟩ = some v ∧ R M y v)
    (h : if agg then n ≤ xs.length ∧ K (.agg (xs.take n)) σ else match xs[0]? with
        | some y => K y σ
        | none => False) : ∃ v x, (Instr.loadAt t (.pointer (some ⟨b, o, none⟩))).run P w = .ok v w ∧ R M x v ∧ K x σ := by
  obtain ⟨h1, h2⟩ := aggT_run ht w
  simp only [Instr.loadAt, Instr.sureAddr, loadVar, Sem.run_bind, Sem.run_pure, Result.andThen_ok, h1]
  cases agg with
  | true =>
    simp only [if_true] at h
    obtain ⟨hl, hk⟩ := h
    have : ∃ cs : List Value, RL M (xs.take n) cs ∧ ∀ i (hi : i < cs.length), w.cell? ⟨b, o + i, none⟩ = some cs[i] := by
      generalize hys : xs.take n = ys
      have hy : ∀ i y, ys[i]? = some y → ∃ v, w.cell? ⟨b, o + i, none⟩ = some v ∧ R M y v := fun i y e => by
        subst hys
        rw [List.getElem?_take] at e
        split at e
        · exact hx i y e
        · simp at e
      clear hys hx hl hk
      induction ys generalizing o with
      | nil => exact ⟨[], RL.nil, fun i hi => absurd hi (by simp)⟩
      | cons y ys ih =>
        obtain ⟨v, hv, hr⟩ := hy 0 y rfl
        obtain ⟨cs, hc, hcs⟩ := ih (o := o + 1) (fun i z e => by have := hy (i + 1) z (by simpa using e); rwa [show o + 1 + i = o + (i + 1) from by omega])
        refine ⟨v :: cs, RL.cons hr hc, fun i hi => ?_⟩
        cases i with
        | zero => exact hv
        | succ i => have := hcs i (by simpa using hi); rw [show o + (i + 1) = o + 1 + i from by omega]; simpa using this
    obtain ⟨cs, hc, hcs⟩ := this
    have hlen : cs.length = n := by rw [← hc.1]; simp; omega
    simp only [if_true, Sem.run_bind, h2, Result.andThen_ok, run_loads b o n cs hlen hcs, Sem.run_pure]
    exact ⟨_, _, rfl, R.mk_agg hc, hk⟩
  | false =>
    simp only [Bool.false_eq_true, if_false] at h ⊢
    cases hx0 : xs[0]? with
    | none => simp [hx0] at h
    | some y =>
      simp only [hx0] at h
      obtain ⟨v, hv, hr⟩ := hx 0 y hx0
      simp only [Nat.add_zero] at hv
      simp only [run_load, hv]
      exact ⟨_, _, rfl, hr, h⟩

theorem s_load {agg : Bool} {n : Nat} {x : Operand} {t : TypeId} {cfg : Nat → Nat} {d : Option Nat} {E : List PanicEntry → Store → Prop} (ht : aggT P t = some (agg, n)) (hI : Inv M w0 σ w) (hR : RegsOK M rg a)
    (h : vcO P cfg d rg σ K E (.load agg n x)) : Gives M w0 K ((Instr.loadAt t (a.eval x)).run P w) := by
  have hx := hR.ev x
  simp only [vcO] at h
  split at h
  · rename_i tg b o he
    rw [he] at hx
    rw [hx.of_lp]
    split at h
    · rename_i b' l hb
      obtain ⟨rfl, h⟩ := h
      suffices hs : ∃ v x, (Instr.loadAt t (.pointer (some ⟨b, o, none⟩))).run P w = .ok v w ∧ R M x v ∧ K x σ by
        obtain ⟨v, x, h1, h2, h3⟩ := hs; exact Gives.same hI h2 h3 h1
      refine s_load_cells ht (l.drop o) (fun i y e => ?_) ?_
      · rw [List.getElem?_drop] at e
        exact hI.cell hb e
      · cases agg with
        | true =>
          simp only [if_true] at h ⊢
          refine ⟨by simp; omega, h.2⟩
        | false =>
          simp only [Bool.false_eq_true, if_false] at h ⊢
          rw [List.getElem?_drop, Nat.add_zero]
          exact h
    · exact h.elim
  · rename_i l he
    rw [he] at hx
    obtain ⟨b, off, cs, hv, hM, hRR⟩ := hx.of_pc
    rw [hv]
    suffices hs : ∃ v x, (Instr.loadAt t (.pointer (some ⟨b, off, none⟩))).run P w = .ok v w ∧ R M x v ∧ K x σ by
      obtain ⟨v, x, h1, h2, h3⟩ := hs; exact Gives.same hI h2 h3 h1
    refine s_load_cells ht l (fun i y e => ?_) h
    obtain ⟨hi, rfl⟩ := List.getElem?_eq_some_iff.1 e
    exact ⟨cs i, hI.imm _ _ _ (hM i hi), hRR i hi⟩
  · exact h.elim

/-- Stores of cells, one after the other, into a block that the walk owns. -/
theorem run_stores (b o : Nat) (t : TypeId) : ∀ (vs : List Value) (cs : Array Value) (i : Nat) (w : World), w.heap[b]? = some (.cells cs t (0, 0)) → o + i + vs.length ≤ cs.size → vs.all Value.oneCell' = true →
    ∃ w', (storeCells ⟨b, o, none⟩ vs i).run P w = .ok () w' ∧ w'.heap[b]? = some (.cells (over cs.toList (o + i) vs).toArray t (0, 0)) ∧ (∀ k, k ≠ b → w'.heap[k]? = w.heap[k]?) ∧ w'.os = w.os ∧ w'.tape = w.tape ∧ w'.output = w.output ∧ w'.heap.size = w.heap.size
  | [], cs, i, w, hh, _, _ => ⟨w, rfl, by simpa [over] using hh, fun _ _ => rfl, rfl, rfl, rfl, rfl⟩
  | v :: vs, cs, i, w, hh, hl, h1 => by
    simp only [List.length_cons] at hl
    simp only [List.all_cons, Bool.and_eq_true] at h1
    have hlt : o + i < cs.size := by omega
    have hc : w.cell? ⟨b, o + i, none⟩ = some (cs[o + i]) := by simp [World.cell?, hh, hlt]
    have hf : w.frozen? ⟨b, o + i, none⟩ = false := by simp [World.frozen?, hh]
    have hs : (store (Addr.add ⟨b, o, none⟩ i) v).run P w = .ok () (w.setCell ⟨b, o + i, none⟩ v) := by
      rw [Addr.add_lit, run_store _ _ _ _ _ h1.1, hc]
      simp [hf]
    have hh1 : (w.setCell ⟨b, o + i, none⟩ v).heap[b]? = some (.cells (cs.setIfInBounds (o + i) v) t (0, 0)) := by
      simp [World.setCell, Array.getElem?_modify, hh]
    obtain ⟨w', hr, hw', hk, e1, e2, e3, e4⟩ := run_stores b o t vs (cs.setIfInBounds (o + i) v) (i + 1) _ hh1 (by simp; omega) h1.2
    refine ⟨w', ?_, ?_, fun k hkb => ?_, e1, e2, e3, e4.trans (by simp)⟩
    · simp only [storeCells, Sem.run_bind, hs, Result.andThen_ok]
      exact hr
    · rw [hw']
      congr 2
      apply Array.ext'
      simp only [over, Array.toList_setIfInBounds]
      have : (cs.toList.set (o + i) v).take (o + (i + 1)) = cs.toList.take (o + i) ++ [v] := by
        rw [show o + (i + 1) = o + i + 1 from rfl, List.take_succ_eq_append_getElem (by simpa using hlt), List.take_set_of_le (Nat.le_refl _)]
        simp
      rw [this, List.drop_set_of_lt (by omega)]
      simp only [List.length_cons, List.append_assoc, List.cons_append, List.nil_append]
      rw [show o + (i + 1) + vs.length = o + i + (vs.length + 1) from by omega]
    · rw [hk k hkb]
      simp only [World.setCell, Array.getElem?_modify]
      rw [if_neg (fun e => hkb e.symm)]

theorem Inv.upd {M : Mem} {w0 w w' : World} {σ : Store} (hI : Inv M w0 σ w) {tg b : Nat} {x y : Blk} (hb : lkt σ tg = some (b, x)) (hk : ∀ k, k ≠ b → w'.heap[k]? = w.heap[k]?) (e1 : w'.os = w.os) (e2 : w'.tape = w.tape) (e3 : w'.output = w.output)
    (e4 : w'.heap.size = w.heap.size) (hM : ∀ o, M b o = none) (hy : BlkOK M w' b y) : Inv M w0 (upt σ tg b y) w' := by
  have hold : w0.heap.size ≤ b := (hI.st _ (lkt_mem hb)).1
  obtain ⟨pre, post, h1, h2⟩ := upt_split hb
  have hnd := hI.nd
  rw [h1] at hnd
  simp only [List.map_append, List.map_cons] at hnd
  refine ⟨e1.trans hI.os, e2.trans hI.tape, e3.trans hI.output, by rw [e4]; exact hI.size, fun k hk' => ?_, fun b' o v hv => ?_, fun e he => ?_, ?_⟩
  · rw [hk k (by omega)]; exact hI.old k hk'
  · have hne : b' ≠ b := fun e => by rw [e, hM] at hv; cases hv
    have := hI.imm b' o v hv
    rw [← this]
    simp only [World.cell?, hk b' hne]
  · rw [h2] at he
    have hmem : e = (tg, b, y) ∨ (e ∈ σ ∧ e.2.1 ≠ b) := by
      rw [List.nodup_append] at hnd
      rcases List.mem_append.1 he with he | he
      · refine .inr ⟨by rw [h1]; exact List.mem_append_left _ he, fun eb => ?_⟩
        exact hnd.2.2 e.2.1 (List.mem_map_of_mem he) b List.mem_cons_self eb
      · rcases List.mem_cons.1 he with rfl | he
        · exact .inl rfl
        · refine .inr ⟨by rw [h1]; exact List.mem_append_right _ (List.mem_cons_of_mem _ he), fun eb => ?_⟩
          have := (List.nodup_cons.1 hnd.2.1).1
          exact this (by rw [← eb]; exact List.mem_map_of_mem (f := fun e : Nat × Nat × Blk => e.2.1) he)
    rcases hmem with rfl | ⟨he, hne⟩
    · exact ⟨hold, hy⟩
    · exact ⟨(hI.st e he).1, (hI.st e he).2.heap (hk _ hne)⟩
  · rw [h2]
    simp only [List.map_append, List.map_cons]
    exact hnd

theorem RL.all_one {xs : List AV} {cs : List Value} (h : RL M xs cs) (ha : xs.all AV.one = true) : cs.all Value.oneCell' = true := by
  rw [List.all_eq_true] at *
  intro v hv
  obtain ⟨i, hi, rfl⟩ := List.mem_iff_getElem.1 hv
  have h1 : i < xs.length := h.1 ▸ hi
  exact (h.2 i h1 hi).one (ha _ (List.getElem_mem h1))

theorem s_store {n : Nat} {x y : Operand} {t : TypeId} {g : Bool} {cfg : Nat → Nat} {d : Option Nat} {E : List PanicEntry → Store → Prop} (ht : aggT P t = some (g, n)) (hI : Inv M w0 σ w) (hR : RegsOK M rg a)
    (h : vcO P cfg d rg σ K E (.store n x y)) : ∃ w' σ', (Instr.storeAt t (a.eval x) (a.eval y)).run P w = .ok () w' ∧ Inv M w0 σ' w' ∧ K (.v undef) σ' := by
  have hx := hR.ev x
  have hy := hR.ev y
  simp only [vcO] at h
  split at h
  · rename_i tg b o l' he hl'
    rw [he] at hx
    rw [hx.of_lp]
    split at h
    · rename_i b' l hb
      obtain ⟨rfl, hn, ho, hlt, hk⟩ := h
      have hc := hy.cells hl'
      obtain ⟨_, hM, cs, t', hh, hl⟩ := hI.st _ (lkt_mem hb)
      have e1 : (a.eval y).cells.size = l'.length := by rw [hc.1, Array.length_toList]
      obtain ⟨w', hr, hw', hk', a1, a2, a3, a4⟩ := run_stores (P := P) b o t' (a.eval y).cells.toList cs 0 w hh (by have := hl.1; simp at this ⊢; omega) (hc.all_one ho)
      refine ⟨w', _, ?_, hI.upd (y := .cells (over l o l')) hb hk' a1 a2 a3 a4 hM ⟨hM, _, t', hw', ?_⟩, hk⟩
      · simp only [Instr.storeAt, Instr.sureAddr, Sem.run_bind, Sem.run_pure, Result.andThen_ok, storeVar, (aggT_run ht w).2, e1, hn]
        simpa using hr
      · simpa using hl.over hc o
    · exact h.elim
  · exact h.elim

end
end Go.Sx
