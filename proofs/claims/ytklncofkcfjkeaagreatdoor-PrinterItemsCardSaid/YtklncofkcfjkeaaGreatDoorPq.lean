
/- Calls that read the caller's blocks; tables. -/
import Derived.Test.YtklncofkcfjkeaaGreatDoorPp
set_option linter.unusedSimpArgs false
set_option linter.unusedVariables false
set_option maxRecDepth 100000
set_option maxHeartbeats 4000000
namespace Go.Sx
/-- A contract for one store: the result, and the store xs it was. -/
structure At (P : Program) [Glob P] (f : FuncId) (xs : List AV) (r : AV) (σ : Store) : Prop where
  sp : Spec P f xs σ fun r' σ' => r' = .ret r ∧ σ' = σ
theorem At.wk {P : Program} [Glob P] {f : FuncId} {xs bs : List AV} {r : AV} {σ : Store} (h : At P f bs r σ) (hw : WkL xs bs) : At P f xs r σ :=
  ⟨fun M w0 w cs hI hR => h.sp M w0 w cs hI (hw.sound hR)⟩
theorem callP_at {P : Program} [Glob P] {f : FuncId} {xs : List AV} {σ : Store} {K : AV → Store → Prop} {E : List PanicEntry → Store → Prop} {r : AV} (h : At P f xs r σ) (k : K r σ) : CallP P f xs σ K E :=
  ⟨_, h.sp, fun _ _ ⟨e, e'⟩ => by cases e; subst e'; exact k, fun _ _ ⟨e, _⟩ => by cases e⟩
theorem At.runk {P : Program} [Glob P] {f : FuncId} {fn : Func} {fc : FC} {xs : List AV} {r : AV} {σ : Store} {a : AC} (cfg : Nat → Nat) (hf : P.funcs[f]? = some fn) (hc : compF P fn = some fc) (ha : fc.code = a.erase) (hlen : xs.length ≤ fc.N)
    (h : WK P fc.N cfg (pureQ fc.res r σ) a [] (argR 0 xs) σ) : At P f xs r σ := by
  have h1 := h.h.h
  rw [← ha] at h1
  refine ⟨?_⟩
  have := Spec.intro (Q := fun r' σ' => ∃ x, r' = .ret x ∧ Wk x r ∧ Sub σ σ') hf hc hlen (h1.mono (fun e rg σ' hq => by
    cases e with
    | normal => obtain ⟨x, h1, h2, h3⟩ := hq; exact ⟨x, h1, x, rfl, h2, h3⟩
    | ret => obtain ⟨x, h1, h2, h3⟩ := hq; exact ⟨x, h1, x, rfl, h2, h3⟩
    | _ => exact hq.elim))
  refine this.weak ?_
  rintro r' σ' ⟨x, rfl, h2, h3⟩
  exact ⟨.ret r, σ, ⟨rfl, rfl⟩, h3, h2⟩
section
variable {P : Program} [Glob P] {cfg : Nat → Nat} {K : Regs → Store → Prop} {E : List PanicEntry → Store → Prop} {σ : Store} {l : List CI} {d : Nat} {v : AV} {xr : XR} {ps : List Prop} {g : Option (Nat × Bool)} {og : Option Bool} {xs : List AV} {args : List Operand}
theorem VX_callA {f : FuncId} {r : AV} (h : argO xr g args = some (og, xs, ps)) (hp : og.getD true = true → At P f xs r σ) (hps : OB ps) (k : VX P cfg l K E (putX og d r xr) σ) : VX P cfg (⟨some d, .call f args, g⟩ :: l) K E xr σ := by
  obtain ⟨hc, he⟩ := argO_eq h
  refine VX_gen hc (fun hg => ?_) (fun hg => ?_)
  · simp only [vcO, he hps hg]
    refine callP_at (hp hg) ?_
    rw [← putX_t hg]; exact k.h
  · rw [← putX_f hg (v := r)]; exact k.h
theorem VX_callvA {f : FuncId} {r fv : AV} {fo : Operand} {a c : Array Value} (h : argO xr g (fo :: args) = some (og, fv :: xs, ps)) (hf : fnO fv = some (f, a, c)) (hcl : callable P f = true) (hp : og.getD true = true → At P f (a.toList.map .v ++ xs ++ c.toList.map .v) r σ) (hps : OB ps) (k : VX P cfg l K E (putX og d r xr) σ) :
    VX P cfg (⟨some d, .callv fo args, g⟩ :: l) K E xr σ := by
  obtain ⟨hc, he⟩ := argO_eq h
  refine VX_gen hc (fun hg => ?_) (fun hg => ?_)
  · have := he hps hg
    simp only [evs, List.cons.injEq] at this
    simp only [vcO, this.1, this.2, fnO_eq hf]
    refine ⟨hcl, callP_at (hp hg) ?_⟩
    rw [← putX_t hg]; exact k.h
  · rw [← putX_f hg (v := r)]; exact k.h
end
theorem Wk.ptr (t b o : Nat) : Wk (.v (.pointer (some ⟨b, o, none⟩))) (.lp t b o) := fun M x h => by
  obtain rfl := h.of_v
  exact .lp t b o
end Go.Sx
namespace Go.Proofs.YtklncofkcfjkeaaGreatDoor
open Go.Sx Go.Proofs
theorem sameName_ok (x f : Fld) (b : Nat) (τ : Store) : At Tryz.prog 79 [.agg x.cells, .lp 4 b 0] (.v (.bool (decide (x.name = f.name)))) ((4, b, Blk.cells f.cells) :: τ) := by
  refine At.runk (fun _ => 0) Tryz.func79 comp79 era79 (Nat.le_of_ble_eq_true rfl) ?_
  repeat' (first | exact .nil | refine .k0 ?_ | refine .k1 ?_ | refine .k2 ?_ | refine .k3 ?_ | refine .k4 ?_ | refine .k5 ?_ | refine .k6 ?_ | refine .k7 ?_ | refine .k8 ?_ | refine .k9 ?_ | (refine .cd ?_ ?_ <;> first | with_reducible exact tF | with_reducible exact fT | (intro hc; first | exact kf hc (by assumption) | exact kt hc (by assumption) | skip)) | refine .r1 ?_ ?_ | (refine .l1 ?_; intro b) | (refine .m1 ?_ ?_; intro b) | (refine .m2 ?_ ?_; intro hlen) | (refine .m3 ?_ ?_; intro hlen) | refine .t1 ?_ ?_ ?_ | refine .t2 ?_ ?_ ?_ | refine .t3 ?_ ?_ ?_ | refine .t4 ?_ ?_ ?_ | (refine .l2 ?_; intro b) | refine .u1 ?_ ?_ ?_ (fun b u c => ?_) | refine .u2 ?_ ?_ ?_ (fun b u c => ?_) | refine .an rfl (by intro hob; first | fail) ?_ ?_ | refine .t5 ?_ ?_ ?_ | refine .t6 ?_ ?_ ?_ | refine .t7 ?_ ?_ ?_ | refine .r2 ?_ ?_ | refine .r3 ?_ ?_ | refine .r4 ?_ ?_ | refine .r5 ?_ ?_ | (refine .l3 ?_; intro b) | refine .r6 ?_ ?_ | refine .r7 ?_ ?_ | refine .r8 ?_ ?_ | refine .r9 ?_ ?_ | refine .ra ?_ ?_ | (show List.all _ _ = true; rfl) | (show (_ : Nat) = _; rfl))
  try any_goals ((intro hob; first | (simp_all; done) | (simp only [BL] at *; first | (simp_all; done) | omega)))
  all_goals (try simp only [BL] at *)
  · exact Sx.Fin.intro (by repeat' first | exact .refl _ | refine .same ?_ | refine .cons ?_) rfl
theorem indexT_ok (fs : List Fld) (f : Fld) (b : Nat) (τ : Store) : At Tryz.prog 107 [.sl false 4 (fs.map Fld.cells), .v (.func (.func 79) #[] #[.pointer (some ⟨b, 0, none⟩)])] (iv (firstIdx (fun x => decide (x.name = f.name)) fs 0)) ((4, b, Blk.cells f.cells) :: τ) := by
  refine At.runk (fun _ => 0) Tryz.func107 comp107 era107 (Nat.le_of_ble_eq_true rfl) ?_
  repeat' (first | exact .nil | refine .k0 ?_ | refine .k1 ?_ | refine .k2 ?_ | refine .k3 ?_ | refine .k4 ?_ | refine .k5 ?_ | refine .k6 ?_ | refine .k7 ?_ | refine .k8 ?_ | refine .k9 ?_ | (refine .cd ?_ ?_ <;> first | with_reducible exact tF | with_reducible exact fT | (intro hc; first | exact kf hc (by assumption) | exact kt hc (by assumption) | skip)) | refine .r1 ?_ ?_ | (refine .l1 ?_; intro b) | (refine .m1 ?_ ?_; intro b) | (refine .m2 ?_ ?_; intro hlen) | (refine .m3 ?_ ?_; intro hlen) | refine .t1 ?_ ?_ ?_ | refine .t2 ?_ ?_ ?_ | refine .t3 ?_ ?_ ?_ | refine .t4 ?_ ?_ ?_ | (refine .l2 ?_; intro b) | refine .u1 ?_ ?_ ?_ (fun b u c => ?_) | refine .u2 ?_ ?_ ?_ (fun b u c => ?_) | refine .an rfl (by intro hob; first | fail) ?_ ?_ | refine .t5 ?_ ?_ ?_ | refine .t6 ?_ ?_ ?_ | refine .t7 ?_ ?_ ?_ | refine .r2 ?_ ?_ | refine .r3 ?_ ?_ | refine .r4 ?_ ?_ | refine .r5 ?_ ?_ | (refine .l3 ?_; intro b) | refine .r6 ?_ ?_ | refine .r7 ?_ ?_ | refine .r8 ?_ ?_ | refine .r9 ?_ ?_ | refine .ra ?_ ?_ | (show List.all _ _ = true; rfl) | (show (_ : Nat) = _; rfl))
  try any_goals ((intro hob; first | (simp_all; done) | (simp only [BL] at *; first | (simp_all; done) | omega)))
  all_goals (try simp only [BL] at *)
  refine WK_loop (fun n rg σ' => ∃ i : Nat, i ≤ fs.length ∧ n = fs.length - i ∧ (∀ j, j < i → ¬ (fs.getD j default).name = f.name) ∧ σ' = (4, b, Blk.cells f.cells) :: τ ∧ rg = [(0, .sl false 4 (fs.map Fld.cells)), (1, .v (.func (.func 79) #[] #[.pointer (some ⟨b, 0, none⟩)])), (7, iv fs.length), (8, iv i)]) fs.length rfl ⟨_, _, by repeat' first | exact .row | exact .refl _ | exact .nil | refine .cons ?_ ?_ | refine .tup ?_ | refine .agg ?_ | exact .sl | exact .own _ | exact .tag, by repeat' first | exact .refl _ | refine .same ?_ | refine .cons ?_, 0, Nat.zero_le _, rfl, fun j hj => absurd hj (by omega), rfl, rfl⟩ ?_
  rintro n _ _ ⟨i, hi, hn, hp, rfl, rfl⟩
  repeat' (first | exact .nil | refine .k0 ?_ | refine .k1 ?_ | refine .k2 ?_ | refine .k3 ?_ | refine .k4 ?_ | refine .k5 ?_ | refine .k6 ?_ | refine .k7 ?_ | refine .k8 ?_ | refine .k9 ?_ | (refine .cd ?_ ?_ <;> first | with_reducible exact tF | with_reducible exact fT | (intro hc; first | exact kf hc (by assumption) | exact kt hc (by assumption) | skip)) | refine .r1 ?_ ?_ | (refine .l1 ?_; intro b) | (refine .m1 ?_ ?_; intro b) | (refine .m2 ?_ ?_; intro hlen) | (refine .m3 ?_ ?_; intro hlen) | refine .t1 ?_ ?_ ?_ | refine .t2 ?_ ?_ ?_ | refine .t3 ?_ ?_ ?_ | refine .t4 ?_ ?_ ?_ | (refine .l2 ?_; intro b) | refine .u1 ?_ ?_ ?_ (fun b u c => ?_) | refine .u2 ?_ ?_ ?_ (fun b u c => ?_) | refine .an rfl (by intro hob; first | fail) ?_ ?_ | refine .t5 ?_ ?_ ?_ | refine .t6 ?_ ?_ ?_ | refine .t7 ?_ ?_ ?_ | refine .r2 ?_ ?_ | refine .r3 ?_ ?_ | refine .r4 ?_ ?_ | refine .r5 ?_ ?_ | (refine .l3 ?_; intro b) | refine .r6 ?_ ?_ | refine .r7 ?_ ?_ | refine .r8 ?_ ?_ | refine .r9 ?_ ?_ | refine .ra ?_ ?_ | (show List.all _ _ = true; rfl) | (show (_ : Nat) = _; rfl))
  try any_goals ((intro hob; first | (simp_all; done) | (simp only [BL] at *; first | (simp_all; done) | omega)))
  all_goals (try simp only [BL] at *)
  refine VX_callvA rfl rfl (by rfl) (fun _ => (sameName_ok (fs.getD i default) f b τ).wk (WkL.cons (Wk.refl _) (WkL.cons (Wk.ptr _ _ _) WkL.nil))) OB.nil ?_
  repeat' (first | exact .nil | refine .k0 ?_ | refine .k1 ?_ | refine .k2 ?_ | refine .k3 ?_ | refine .k4 ?_ | refine .k5 ?_ | refine .k6 ?_ | refine .k7 ?_ | refine .k8 ?_ | refine .k9 ?_ | (refine .cd ?_ ?_ <;> first | with_reducible exact tF | with_reducible exact fT | (intro hc; first | exact kf hc (by assumption) | exact kt hc (by assumption) | skip)) | refine .r1 ?_ ?_ | (refine .l1 ?_; intro b) | (refine .m1 ?_ ?_; intro b) | (refine .m2 ?_ ?_; intro hlen) | (refine .m3 ?_ ?_; intro hlen) | refine .t1 ?_ ?_ ?_ | refine .t2 ?_ ?_ ?_ | refine .t3 ?_ ?_ ?_ | refine .t4 ?_ ?_ ?_ | (refine .l2 ?_; intro b) | refine .u1 ?_ ?_ ?_ (fun b u c => ?_) | refine .u2 ?_ ?_ ?_ (fun b u c => ?_) | refine .an rfl (by intro hob; first | fail) ?_ ?_ | refine .t5 ?_ ?_ ?_ | refine .t6 ?_ ?_ ?_ | refine .t7 ?_ ?_ ?_ | refine .r2 ?_ ?_ | refine .r3 ?_ ?_ | refine .r4 ?_ ?_ | refine .r5 ?_ ?_ | (refine .l3 ?_; intro b) | refine .r6 ?_ ?_ | refine .r7 ?_ ?_ | refine .r8 ?_ ?_ | refine .r9 ?_ ?_ | refine .ra ?_ ?_ | (show List.all _ _ = true; rfl) | (show (_ : Nat) = _; rfl))
  try any_goals ((intro hob; first | (simp_all; done) | (simp only [BL] at *; first | (simp_all; done) | omega)))
  all_goals (try simp only [BL] at *)
  · rw [firstIdx_at (p := fun x : Fld => decide (x.name = f.name)) (l := fs) (k := 0) (i := i) (fun j hj => decide_eq_false (hp j hj)) (by omega) (decide_eq_true hc), Nat.zero_add]
    (refine Sx.Fin.wk (by repeat' first | exact .refl _ | refine .same ?_ | refine .cons ?_) ?_; repeat' first | exact .refl _ | exact .nil | refine .cons ?_ ?_ | refine .tup ?_ | refine .agg ?_ | exact .sl | exact .own _)
  · refine ⟨fs.length - (i + 1), by omega, _, _, by repeat' first | exact .row | exact .refl _ | exact .nil | refine .cons ?_ ?_ | refine .tup ?_ | refine .agg ?_ | exact .sl | exact .own _ | exact .tag, by repeat' first | exact .refl _ | refine .same ?_ | refine .cons ?_, i + 1, by omega, rfl, cons_lt hp hc, rfl, by rw [up1 (by omega) hlen]⟩
  · rw [firstIdx_no (fun y hy => decide_eq_false (take_all (p := fun y : Fld => ¬ y.name = f.name) (fun j hj => hp j (by omega)) y hy))]
    (refine Sx.Fin.wk (by repeat' first | exact .refl _ | refine .same ?_ | refine .cons ?_) ?_; repeat' first | exact .refl _ | exact .nil | refine .cons ?_ ?_ | refine .tup ?_ | refine .agg ?_ | exact .sl | exact .own _)
theorem containsT_ok (fs : List Fld) (f : Fld) (b : Nat) (τ : Store) : At Tryz.prog 78 [.sl false 4 (fs.map Fld.cells), .v (.func (.func 79) #[] #[.pointer (some ⟨b, 0, none⟩)])] (.v (.bool (decide (∃ x ∈ fs, x.name = f.name)))) ((4, b, Blk.cells f.cells) :: τ) := by
  refine At.runk (fun _ => 0) Tryz.func78 comp78 era78 (Nat.le_of_ble_eq_true rfl) ?_
  repeat' (first | exact .nil | refine .k0 ?_ | refine .k1 ?_ | refine .k2 ?_ | refine .k3 ?_ | refine .k4 ?_ | refine .k5 ?_ | refine .k6 ?_ | refine .k7 ?_ | refine .k8 ?_ | refine .k9 ?_ | (refine .cd ?_ ?_ <;> first | with_reducible exact tF | with_reducible exact fT | (intro hc; first | exact kf hc (by assumption) | exact kt hc (by assumption) | skip)) | refine .r1 ?_ ?_ | (refine .l1 ?_; intro b) | (refine .m1 ?_ ?_; intro b) | (refine .m2 ?_ ?_; intro hlen) | (refine .m3 ?_ ?_; intro hlen) | refine .t1 ?_ ?_ ?_ | refine .t2 ?_ ?_ ?_ | refine .t3 ?_ ?_ ?_ | refine .t4 ?_ ?_ ?_ | (refine .l2 ?_; intro b) | refine .u1 ?_ ?_ ?_ (fun b u c => ?_) | refine .u2 ?_ ?_ ?_ (fun b u c => ?_) | refine .an rfl (by intro hob; first | fail) ?_ ?_ | refine .t5 ?_ ?_ ?_ | refine .t6 ?_ ?_ ?_ | refine .t7 ?_ ?_ ?_ | refine .r2 ?_ ?_ | refine .r3 ?_ ?_ | refine .r4 ?_ ?_ | refine .r5 ?_ ?_ | (refine .l3 ?_; intro b) | refine .r6 ?_ ?_ | refine .r7 ?_ ?_ | refine .r8 ?_ ?_ | refine .r9 ?_ ?_ | refine .ra ?_ ?_ | (show List.all _ _ = true; rfl) | (show (_ : Nat) = _; rfl))
  try any_goals ((intro hob; first | (simp_all; done) | (simp only [BL] at *; first | (simp_all; done) | omega)))
  all_goals (try simp only [BL] at *)
  refine VX_callA rfl (fun _ => indexT_ok fs f b τ) OB.nil ?_
  repeat' (first | exact .nil | refine .k0 ?_ | refine .k1 ?_ | refine .k2 ?_ | refine .k3 ?_ | refine .k4 ?_ | refine .k5 ?_ | refine .k6 ?_ | refine .k7 ?_ | refine .k8 ?_ | refine .k9 ?_ | (refine .cd ?_ ?_ <;> first | with_reducible exact tF | with_reducible exact fT | (intro hc; first | exact kf hc (by assumption) | exact kt hc (by assumption) | skip)) | refine .r1 ?_ ?_ | (refine .l1 ?_; intro b) | (refine .m1 ?_ ?_; intro b) | (refine .m2 ?_ ?_; intro hlen) | (refine .m3 ?_ ?_; intro hlen) | refine .t1 ?_ ?_ ?_ | refine .t2 ?_ ?_ ?_ | refine .t3 ?_ ?_ ?_ | refine .t4 ?_ ?_ ?_ | (refine .l2 ?_; intro b) | refine .u1 ?_ ?_ ?_ (fun b u c => ?_) | refine .u2 ?_ ?_ ?_ (fun b u c => ?_) | refine .an rfl (by intro hob; first | fail) ?_ ?_ | refine .t5 ?_ ?_ ?_ | refine .t6 ?_ ?_ ?_ | refine .t7 ?_ ?_ ?_ | refine .r2 ?_ ?_ | refine .r3 ?_ ?_ | refine .r4 ?_ ?_ | refine .r5 ?_ ?_ | (refine .l3 ?_; intro b) | refine .r6 ?_ ?_ | refine .r7 ?_ ?_ | refine .r8 ?_ ?_ | refine .r9 ?_ ?_ | refine .ra ?_ ?_ | (show List.all _ _ = true; rfl) | (show (_ : Nat) = _; rfl))
  try any_goals ((intro hob; first | (simp_all; done) | (simp only [BL] at *; first | (simp_all; done) | omega)))
  all_goals (try simp only [BL] at *)
  · refine Sx.Fin.intro (by repeat' first | exact .refl _ | refine .same ?_ | refine .cons ?_) (bd ?_)
    rw [decide_eq_true_eq, firstIdx_ge]
    simp only [decide_eq_true_eq]
def fldErr (prev : List Fld) (f : Fld) : Int := if ¬ Name f.name then 3 else if ∃ x ∈ prev, x.name = f.name then 121 else tyErr f.type
def fldErrL : List Fld → List Fld → Int
  | _, [] => 0
  | prev, f :: l => if fldErr prev f = 0 then fldErrL (prev ++ [f]) l else fldErr prev f
def tabErr (t : Tab) : Int :=
  if ¬ (Name t.name ∧ Name t.entity ∧ 0 ≤ t.keep ∧ t.keep ≤ 1099511627776) then 3 else if t.fields.length > 8 then 2 else fldErrL [] t.fields
theorem fldErrL_step {u : List Fld} {i : Nat} (hi : i < u.length) (h : fldErr (u.take i) (u.getD i default) = 0) : fldErrL (u.take i) (u.drop i) = fldErrL (u.take (i + 1)) (u.drop (i + 1)) := by
  rw [drop_get hi, fldErrL, if_pos h, take_snoc hi]
theorem fldErrL_end {u : List Fld} {i : Nat} {e : Int} (hi : i < u.length) (h : fldErr (u.take i) (u.getD i default) = e) (he : e ≠ 0) : fldErrL (u.take i) (u.drop i) = e := by
  rw [drop_get hi, fldErrL, if_neg (by rw [h]; exact he), h]
theorem table_ok (t : Tab) : Pure Tryz.prog 41 [.agg t.cells] (iv (tabErr t)) := by
  refine Pure.runk (fun _ => 0) Tryz.func41 comp41 era41 (Nat.le_of_ble_eq_true rfl) fun σ => ?_
  repeat' (first | exact .nil | refine .k0 ?_ | refine .k1 ?_ | refine .k2 ?_ | refine .k3 ?_ | refine .k4 ?_ | refine .k5 ?_ | refine .k6 ?_ | refine .k7 ?_ | refine .k8 ?_ | refine .k9 ?_ | (refine .cd ?_ ?_ <;> first | with_reducible exact tF | with_reducible exact fT | (intro hc; first | exact kf hc (by assumption) | exact kt hc (by assumption) | skip)) | refine .r1 ?_ ?_ | (refine .l1 ?_; intro b) | (refine .m1 ?_ ?_; intro b) | (refine .m2 ?_ ?_; intro hlen) | (refine .m3 ?_ ?_; intro hlen) | refine .t1 ?_ ?_ ?_ | refine .t2 ?_ ?_ ?_ | refine .t3 ?_ ?_ ?_ | refine .t4 ?_ ?_ ?_ | (refine .l2 ?_; intro b) | refine .u1 ?_ ?_ ?_ (fun b u c => ?_) | refine .u2 ?_ ?_ ?_ (fun b u c => ?_) | refine .an rfl (by intro hob; first | exact name_ok _ | exact type_ok (t.fields.getD i default).type) ?_ ?_ | refine .t5 ?_ ?_ ?_ | refine .t6 ?_ ?_ ?_ | refine .t7 ?_ ?_ ?_ | refine .r2 ?_ ?_ | refine .r3 ?_ ?_ | refine .r4 ?_ ?_ | refine .r5 ?_ ?_ | (refine .l3 ?_; intro b) | refine .r6 ?_ ?_ | refine .r7 ?_ ?_ | refine .r8 ?_ ?_ | refine .r9 ?_ ?_ | refine .ra ?_ ?_ | (show List.all _ _ = true; rfl) | (show (_ : Nat) = _; rfl))
  try any_goals ((intro hob; first | (simp_all; done) | (simp only [BL] at *; first | (simp_all; done) | omega)))
  all_goals (try simp only [BL] at *)
  · refine Sx.Fin.intro (by repeat' first | exact .refl _ | refine .same ?_ | refine .cons ?_) (bi ?_)
    unfold tabErr; rw [if_pos (by grind)]
  · refine Sx.Fin.intro (by repeat' first | exact .refl _ | refine .same ?_ | refine .cons ?_) (bi ?_)
    unfold tabErr; rw [if_neg (by grind), if_pos (by omega)]
  rename_i h1 h2
  have hu : tabErr t = fldErrL [] t.fields := by unfold tabErr; rw [if_neg (by grind), if_neg (by omega)]
  refine WK_loop (fun n rg σ' => ∃ (i : Nat), i ≤ t.fields.length ∧ n = t.fields.length - i ∧ tabErr t = fldErrL (t.fields.take i) (t.fields.drop i) ∧ σ' = (1, b, Blk.cells t.cells) :: σ ∧ rg = [(1, .lp 1 b 0), (31, .sl false 4 (t.fields.map Fld.cells)), (32, iv t.fields.length), (33, iv i)]) t.fields.length rfl ⟨_, _, by repeat' first | exact .row | exact .refl _ | exact .nil | refine .cons ?_ ?_ | refine .tup ?_ | refine .agg ?_ | exact .sl | exact .own _ | exact .tag, by repeat' first | exact .refl _ | refine .same ?_ | refine .cons ?_, 0, Nat.zero_le _, rfl, hu, rfl, rfl⟩ ?_
  rintro n _ _ ⟨i, hi, hn, hp, rfl, rfl⟩
  repeat' (first | exact .nil | refine .k0 ?_ | refine .k1 ?_ | refine .k2 ?_ | refine .k3 ?_ | refine .k4 ?_ | refine .k5 ?_ | refine .k6 ?_ | refine .k7 ?_ | refine .k8 ?_ | refine .k9 ?_ | (refine .cd ?_ ?_ <;> first | with_reducible exact tF | with_reducible exact fT | (intro hc; first | exact kf hc (by assumption) | exact kt hc (by assumption) | skip)) | refine .r1 ?_ ?_ | (refine .l1 ?_; intro b) | (refine .m1 ?_ ?_; intro b) | (refine .m2 ?_ ?_; intro hlen) | (refine .m3 ?_ ?_; intro hlen) | refine .t1 ?_ ?_ ?_ | refine .t2 ?_ ?_ ?_ | refine .t3 ?_ ?_ ?_ | refine .t4 ?_ ?_ ?_ | (refine .l2 ?_; intro b) | refine .u1 ?_ ?_ ?_ (fun b u c => ?_) | refine .u2 ?_ ?_ ?_ (fun b u c => ?_) | refine .an rfl (by intro hob; first | exact name_ok _ | exact type_ok (t.fields.getD i default).type) ?_ ?_ | refine .t5 ?_ ?_ ?_ | refine .t6 ?_ ?_ ?_ | refine .t7 ?_ ?_ ?_ | refine .r2 ?_ ?_ | refine .r3 ?_ ?_ | refine .r4 ?_ ?_ | refine .r5 ?_ ?_ | (refine .l3 ?_; intro b) | refine .r6 ?_ ?_ | refine .r7 ?_ ?_ | refine .r8 ?_ ?_ | refine .r9 ?_ ?_ | refine .ra ?_ ?_ | (show List.all _ _ = true; rfl) | (show (_ : Nat) = _; rfl))
  try any_goals ((intro hob; first | (simp_all; done) | (simp only [BL] at *; first | (simp_all; done) | omega)))
  all_goals (try simp only [BL] at *)
  · rw [hp, fldErrL_end (e := 3) (by omega) (if_pos hc) (by decide)]
    (refine Sx.Fin.wk (by repeat' first | exact .refl _ | refine .same ?_ | refine .cons ?_) ?_; repeat' first | exact .refl _ | exact .nil | refine .cons ?_ ?_ | refine .tup ?_ | refine .agg ?_ | exact .sl | exact .own _)
  refine VX_callA rfl (fun _ => containsT_ok (t.fields.take i) (t.fields.getD i default) _ _) OB.nil ?_
  repeat' (first | exact .nil | refine .k0 ?_ | refine .k1 ?_ | refine .k2 ?_ | refine .k3 ?_ | refine .k4 ?_ | refine .k5 ?_ | refine .k6 ?_ | refine .k7 ?_ | refine .k8 ?_ | refine .k9 ?_ | (refine .cd ?_ ?_ <;> first | with_reducible exact tF | with_reducible exact fT | (intro hc; first | exact kf hc (by assumption) | exact kt hc (by assumption) | skip)) | refine .r1 ?_ ?_ | (refine .l1 ?_; intro b) | (refine .m1 ?_ ?_; intro b) | (refine .m2 ?_ ?_; intro hlen) | (refine .m3 ?_ ?_; intro hlen) | refine .t1 ?_ ?_ ?_ | refine .t2 ?_ ?_ ?_ | refine .t3 ?_ ?_ ?_ | refine .t4 ?_ ?_ ?_ | (refine .l2 ?_; intro b) | refine .u1 ?_ ?_ ?_ (fun b u c => ?_) | refine .u2 ?_ ?_ ?_ (fun b u c => ?_) | refine .an rfl (by intro hob; first | exact name_ok _ | exact type_ok (t.fields.getD i default).type) ?_ ?_ | refine .t5 ?_ ?_ ?_ | refine .t6 ?_ ?_ ?_ | refine .t7 ?_ ?_ ?_ | refine .r2 ?_ ?_ | refine .r3 ?_ ?_ | refine .r4 ?_ ?_ | refine .r5 ?_ ?_ | (refine .l3 ?_; intro b) | refine .r6 ?_ ?_ | refine .r7 ?_ ?_ | refine .r8 ?_ ?_ | refine .r9 ?_ ?_ | refine .ra ?_ ?_ | (show List.all _ _ = true; rfl) | (show (_ : Nat) = _; rfl))
  try any_goals ((intro hob; first | (simp_all; done) | (simp only [BL] at *; first | (simp_all; done) | omega)))
  all_goals (try simp only [BL] at *)
  · rw [hp, fldErrL_end (e := 121) (by omega) (by unfold fldErr; rw [if_neg (fun h => h ‹_›), if_pos hc]) (by decide)]
    (refine Sx.Fin.wk (by repeat' first | exact .refl _ | refine .same ?_ | refine .cons ?_) ?_; repeat' first | exact .refl _ | exact .nil | refine .cons ?_ ?_ | refine .tup ?_ | refine .agg ?_ | exact .sl | exact .own _)
  · rw [hp, fldErrL_end (by omega) (by unfold fldErr; rw [if_neg (fun h => h ‹_›), if_neg ‹_›]) hc]
    (refine Sx.Fin.wk (by repeat' first | exact .refl _ | refine .same ?_ | refine .cons ?_) ?_; repeat' first | exact .refl _ | exact .nil | refine .cons ?_ ?_ | refine .tup ?_ | refine .agg ?_ | exact .sl | exact .own _)
  · refine ⟨t.fields.length - (i + 1), by omega, _, _, by repeat' first | exact .row | exact .refl _ | exact .nil | refine .cons ?_ ?_ | refine .tup ?_ | refine .agg ?_ | exact .sl | exact .own _ | exact .tag, by repeat' first | exact .refl _ | refine .same ?_ | refine .cons ?_, i + 1, by omega, rfl, ?_, rfl, by rw [up1 (n := t.fields.length) (by omega) (by assumption)]⟩
    rw [hp, fldErrL_step (by omega) (by unfold fldErr; rw [if_neg (fun h => h ‹_›), if_neg ‹_›]; exact hc)]
  · rw [hp, List.drop_eq_nil_of_le (by omega), fldErrL]
    (refine Sx.Fin.wk (by repeat' first | exact .refl _ | refine .same ?_ | refine .cons ?_) ?_; repeat' first | exact .refl _ | exact .nil | refine .cons ?_ ?_ | refine .tup ?_ | refine .agg ?_ | exact .sl | exact .own _)
def fldS (f : Fld) : Str := ⟨#[32]⟩ ++ (f.name ++ (⟨#[58, 32]⟩ ++ tyS f.type))
def tabS (t : Tab) : Str := ⟨#[116, 97, 98, 108, 101, 32]⟩ ++ (t.name ++ (⟨#[32, 111, 102, 32]⟩ ++ (t.entity ++ (⟨#[32, 123]⟩ ++ (joinS (t.fields.map fldS) ⟨#[44]⟩ ++ (⟨#[32, 125]⟩ ++ ((if t.keep = 0 then ⟨#[]⟩ else ⟨#[32, 107, 101, 101, 112, 32]⟩ ++ intS t.keep) ++ ⟨#[59]⟩)))))))
theorem fldErrL_ok : ∀ (l p : List Fld), fldErrL p l = 0 → ∀ f ∈ l, Name f.name ∧ tyErr f.type = 0
  | [], _, _, f, hf => absurd hf (by simp)
  | g :: l, p, h, f, hf => by
    rw [fldErrL] at h
    split at h
    · rename_i h0
      rcases List.mem_cons.1 hf with rfl | hf
      · unfold fldErr at h0
        split at h0
        · omega
        · rename_i hn
          split at h0
          · omega
          · exact ⟨Decidable.not_not.1 hn, h0⟩
      · exact fldErrL_ok l _ h f hf
    · rename_i h0; exact absurd h h0
structure TOK (t : Tab) : Prop where
  n : t.name.size ≤ 24
  e : t.entity.size ≤ 24
  k : 0 ≤ t.keep ∧ t.keep ≤ 1099511627776
  l : t.fields.length ≤ 8
  f : ∀ f ∈ t.fields, Name f.name ∧ tyErr f.type = 0
theorem TOK.of {t : Tab} (h : tabErr t = 0) : TOK t := by
  unfold tabErr at h
  split at h
  · omega
  · rename_i h1
    have h1 := Decidable.not_not.1 h1
    split at h
    · omega
    · exact ⟨h1.1.1.2.1, h1.2.1.1.2.1, h1.2.2, by omega, fldErrL_ok _ _ h⟩
theorem tyS_size {t : Ty} (h : tyErr t = 0) : (tyS t).size ≤ 220 := by
  obtain ⟨hu, hl, ho⟩ := tyErr_facs h
  have := unitT_size hu hl
  unfold tyS
  repeat' split
  all_goals first | decide | (first | omega | (simp only [List.length_cons, List.length_nil, List.length_append, List.length_map, List.length_take, app_size, szl, str_len, List.size_toArray]; omega))
theorem fldS_size {f : Fld} (h : Name f.name ∧ tyErr f.type = 0) : (fldS f).size ≤ 250 := by
  have h1 := tyS_size h.2
  have h2 := h.1.1.2.1
  unfold fldS
  (first | omega | (simp only [List.length_cons, List.length_nil, List.length_append, List.length_map, List.length_take, app_size, szl, str_len, List.size_toArray]; omega))
theorem tab_len {t : Tab} (h : TOK t) : (Lib.join ((t.fields.map fldS).map (·.data.toList)) (⟨#[44]⟩ : Str).data.toList).length ≤ 3000 := by
  have h1 := join_len (t.fields.map fldS) ⟨#[44]⟩
  have h2 := lenS_map fldS 250 fun f hf => fldS_size (h.f f hf)
  have h3 : (⟨#[44]⟩ : Str).size = 1 := rfl
  rw [List.length_map, h3] at h1
  have := h.l
  omega
theorem tab_size {t : Tab} (h : TOK t) : (joinS (t.fields.map fldS) ⟨#[44]⟩).size ≤ 3000 := tab_len h
theorem tab_fac {t : Tab} {i : Nat} (hT : TOK t) (h : i < t.fields.length) : (∀ f ∈ (t.fields.getD i default).type.unit, FacOK f) ∧ (t.fields.getD i default).type.unit.length ≤ 4 ∧ (t.fields.getD i default).type.of.size ≤ 100 ∧ (t.fields.getD i default).name.size ≤ 24 ∧ (tyS (t.fields.getD i default).type).size ≤ 220 := by
  have h1 := hT.f _ (getD_mem h)
  obtain ⟨hu, hl, ho⟩ := tyErr_facs h1.2
  exact ⟨hu, hl, ho, h1.1.1.2.1, tyS_size h1.2⟩
theorem fldS_cat (f : Fld) : catS [⟨#[32]⟩, f.name, ⟨#[58, 32]⟩, tyS f.type] = fldS f := by simp only [catS, fldS, app_nil]
theorem rows_stepT {fs : List Fld} {i : Nat} (h : i < fs.length) : ((fs.take i).map fldS).map strRow ++ [[.v (.string (fldS (fs.getD i default)))]] = ((fs.take (i + 1)).map fldS).map strRow := by
  rw [take_snoc h]; simp [strRow]
theorem tableP_ok (t : Tab) : Pure Tryz.prog 16 [.agg t.cells] (.tup [sv (if tabErr t = 0 then tabS t else ⟨#[]⟩), iv (tabErr t)]) := by
  refine Pure.runk (fun _ => 0) Tryz.func16 comp16 era16 (Nat.le_of_ble_eq_true rfl) fun σ => ?_
  repeat' (first | exact .nil | refine .k0 ?_ | refine .k1 ?_ | refine .k2 ?_ | refine .k3 ?_ | refine .k4 ?_ | refine .k5 ?_ | refine .k6 ?_ | refine .k7 ?_ | refine .k8 ?_ | refine .k9 ?_ | (refine .cd ?_ ?_ <;> first | with_reducible exact tF | with_reducible exact fT | (intro hc; first | exact kf hc (by assumption) | exact kt hc (by assumption) | skip)) | refine .r1 ?_ ?_ | (refine .l1 ?_; intro b) | (refine .m1 ?_ ?_; intro b) | (refine .m2 ?_ ?_; intro hlen) | (refine .m3 ?_ ?_; intro hlen) | refine .t1 ?_ ?_ ?_ | refine .t2 ?_ ?_ ?_ | refine .t3 ?_ ?_ ?_ | refine .t4 ?_ ?_ ?_ | (refine .l2 ?_; intro b) | refine .u1 ?_ ?_ ?_ (fun b u c => ?_) | refine .u2 ?_ ?_ ?_ (fun b u c => ?_) | refine .an rfl (by intro hob; first | exact table_ok t | exact itoa_ok _ (by first | omega | (simp only [BL] at *; omega)) | exact kind_ok (t.fields.getD i default).type (hf (by first | omega | (simp only [BL] at *; omega))).1 (hf (by first | omega | (simp only [BL] at *; omega))).2.1 (hf (by first | omega | (simp only [BL] at *; omega))).2.2.1 | exact join_ok' _ rfl (Nat.le_of_ble_eq_true rfl) (by simp only [lenS, szl, List.size_toArray, List.length_cons, List.length_nil, catS_size]; first | omega | (simp only [BL] at *; omega)) | (refine (joinL_ok [] ⟨#[44]⟩ false (by decide) (by decide)).wk ?_; (repeat' first | exact .row | exact .refl _ | exact .nil | refine .cons ?_ ?_ | refine .tup ?_ | refine .agg ?_ | exact .sl | exact .own _); done) | (refine (joinL_ok (t.fields.map fldS) ⟨#[44]⟩ false (by rw [List.length_map]; omega) (Nat.le_trans (tab_len hT) (by decide))).wk (WkL.cons (Wk.ownr (by rw [List.take_of_length_le (by first | omega | (simp only [BL] at *; omega))])) (WkL.cons (Wk.refl _) WkL.nil)))) ?_ ?_ | refine .t5 ?_ ?_ ?_ | refine .t6 ?_ ?_ ?_ | refine .t7 ?_ ?_ ?_ | refine .r2 ?_ ?_ | refine .r3 ?_ ?_ | refine .r4 ?_ ?_ | refine .r5 ?_ ?_ | (refine .l3 ?_; intro b) | refine .r6 ?_ ?_ | refine .r7 ?_ ?_ | refine .r8 ?_ ?_ | refine .r9 ?_ ?_ | refine .ra ?_ ?_ | (show List.all _ _ = true; rfl) | (show (_ : Nat) = _; rfl))
  try any_goals ((intro hob; first | (simp_all; done) | (simp only [BL] at *; first | (simp_all; done) | omega)))
  all_goals (try simp only [BL] at *)
  · refine Sx.Fin.intro (by repeat' first | exact .refl _ | refine .same ?_ | refine .cons ?_) (bse ?_ rfl)
    exact (if_neg hc).symm
  have hT := TOK.of hc
  have hTn := hT.n
  have hTe := hT.e
  have hTk := hT.k
  have hTl := hT.l
  have hTz := tab_size hT
  have hj : (joinS [] (⟨#[44]⟩ : Str)).size = 0 := rfl
  have hTq := itoa_size t.keep (by omega)
  rw [if_pos hc, hc]
  refine WK_loop (fun n rg σ' => ∃ i : Nat, i ≤ t.fields.length ∧ n = t.fields.length - i ∧ ((i = 0 ∧ σ' = (1, b, Blk.cells t.cells) :: σ ∧ rg = [(1, .lp 1 b 0), (5, .v (.slice none 0 0)), (14, .sl false 4 (t.fields.map Fld.cells)), (15, iv t.fields.length), (16, iv i)]) ∨ (0 < i ∧ ∃ b' v c, σ' = (29, b', .tail v c) :: (1, b, Blk.cells t.cells) :: σ ∧ rg = [(1, .lp 1 b 0), (5, .own 1 29 b' v c (((t.fields.take i).map fldS).map strRow)), (14, .sl false 4 (t.fields.map Fld.cells)), (15, iv t.fields.length), (16, iv i)]))) t.fields.length rfl ⟨_, _, by repeat' first | exact .row | exact .refl _ | exact .nil | refine .cons ?_ ?_ | refine .tup ?_ | refine .agg ?_ | exact .sl | exact .own _ | exact .tag, by repeat' first | exact .refl _ | refine .same ?_ | refine .cons ?_, 0, Nat.zero_le _, rfl, .inl ⟨rfl, rfl, rfl⟩⟩ ?_
  rintro n _ _ ⟨i, hi, hn, ⟨h0, rfl, rfl⟩ | ⟨h0, b0, v0, c0, rfl, rfl⟩⟩
  all_goals have hf := fun h => tab_fac (i := i) hT h
  all_goals have hz1 := fun h => (hf h).2.2.2.1
  all_goals have hz2 := fun h => (hf h).2.2.2.2
  repeat' (first | exact .nil | refine .k0 ?_ | refine .k1 ?_ | refine .k2 ?_ | refine .k3 ?_ | refine .k4 ?_ | refine .k5 ?_ | refine .k6 ?_ | refine .k7 ?_ | refine .k8 ?_ | refine .k9 ?_ | (refine .cd ?_ ?_ <;> first | with_reducible exact tF | with_reducible exact fT | (intro hc; first | exact kf hc (by assumption) | exact kt hc (by assumption) | skip)) | refine .r1 ?_ ?_ | (refine .l1 ?_; intro b) | (refine .m1 ?_ ?_; intro b) | (refine .m2 ?_ ?_; intro hlen) | (refine .m3 ?_ ?_; intro hlen) | refine .t1 ?_ ?_ ?_ | refine .t2 ?_ ?_ ?_ | refine .t3 ?_ ?_ ?_ | refine .t4 ?_ ?_ ?_ | (refine .l2 ?_; intro b) | refine .u1 ?_ ?_ ?_ (fun b u c => ?_) | refine .u2 ?_ ?_ ?_ (fun b u c => ?_) | refine .an rfl (by intro hob; first | exact table_ok t | exact itoa_ok _ (by first | omega | (simp only [BL] at *; omega)) | exact kind_ok (t.fields.getD i default).type (hf (by first | omega | (simp only [BL] at *; omega))).1 (hf (by first | omega | (simp only [BL] at *; omega))).2.1 (hf (by first | omega | (simp only [BL] at *; omega))).2.2.1 | exact join_ok' _ rfl (Nat.le_of_ble_eq_true rfl) (by simp only [lenS, szl, List.size_toArray, List.length_cons, List.length_nil, catS_size]; first | omega | (simp only [BL] at *; omega)) | (refine (joinL_ok [] ⟨#[44]⟩ false (by decide) (by decide)).wk ?_; (repeat' first | exact .row | exact .refl _ | exact .nil | refine .cons ?_ ?_ | refine .tup ?_ | refine .agg ?_ | exact .sl | exact .own _); done) | (refine (joinL_ok (t.fields.map fldS) ⟨#[44]⟩ false (by rw [List.length_map]; omega) (Nat.le_trans (tab_len hT) (by decide))).wk (WkL.cons (Wk.ownr (by rw [List.take_of_length_le (by first | omega | (simp only [BL] at *; omega))])) (WkL.cons (Wk.refl _) WkL.nil)))) ?_ ?_ | refine .t5 ?_ ?_ ?_ | refine .t6 ?_ ?_ ?_ | refine .t7 ?_ ?_ ?_ | refine .r2 ?_ ?_ | refine .r3 ?_ ?_ | refine .r4 ?_ ?_ | refine .r5 ?_ ?_ | (refine .l3 ?_; intro b) | refine .r6 ?_ ?_ | refine .r7 ?_ ?_ | refine .r8 ?_ ?_ | refine .r9 ?_ ?_ | refine .ra ?_ ?_ | (show List.all _ _ = true; rfl) | (show (_ : Nat) = _; rfl))
  try any_goals ((intro hob; first | (simp_all; done) | (simp only [BL] at *; first | (simp_all; done) | omega)))
  all_goals (try simp only [BL] at *)
  any_goals (first | omega | (simp only [List.length_cons, List.length_nil, List.length_append, List.length_map, List.length_take, app_size, szl, str_len, List.size_toArray]; omega))
  all_goals have e := fun h => rows_stepT (fs := t.fields) (i := i) h
  all_goals try simp only [fldS_cat]
  · subst h0
    refine ⟨t.fields.length - (0 + 1), by omega, _, _, by repeat' first | exact .row | exact .refl _ | exact .nil | refine .cons ?_ ?_ | refine .tup ?_ | refine .agg ?_ | exact .sl | exact .own _ | exact .tag, by repeat' first | exact .refl _ | refine .same ?_ | refine .cons ?_, 0 + 1, by omega, rfl, .inr ⟨by omega, _, _, _, rfl, ?_⟩⟩
    rw [← e (by omega), up1 (n := t.fields.length) (by omega) (by assumption)]; rfl
  · have h00 : t.fields = [] := List.eq_nil_of_length_eq_zero (by omega)
    refine Sx.Fin.intro (by repeat' first | exact .refl _ | refine .same ?_ | refine .cons ?_) (bse ?_ rfl)
    unfold tabS
    rw [if_neg hc, h00]
    simp only [catS, app_nil, app_nil', app_assoc, itoa_int hTk.1, List.map_nil]
  · have h00 : t.fields = [] := List.eq_nil_of_length_eq_zero (by omega)
    refine Sx.Fin.intro (by repeat' first | exact .refl _ | refine .same ?_ | refine .cons ?_) (bse ?_ rfl)
    unfold tabS
    rw [if_pos hc, h00]
    simp only [catS, app_nil, app_nil', app_assoc, List.map_nil]
  · refine ⟨t.fields.length - (i + 1), by omega, _, _, by repeat' first | exact .row | exact .refl _ | exact .nil | refine .cons ?_ ?_ | refine .tup ?_ | refine .agg ?_ | exact .sl | exact .own _ | exact .tag, by repeat' first | exact .refl _ | refine .same ?_ | refine .cons ?_, i + 1, by omega, rfl, .inr ⟨by omega, _, _, _, rfl, ?_⟩⟩
    rw [← e (by omega), up1 (n := t.fields.length) (by omega) (by assumption)]
  · refine Sx.Fin.intro (by repeat' first | exact .refl _ | refine .same ?_ | refine .cons ?_) (bse ?_ rfl)
    unfold tabS
    rw [if_neg hc]
    simp only [catS, app_nil, app_nil', app_assoc, itoa_int hTk.1]
  · refine Sx.Fin.intro (by repeat' first | exact .refl _ | refine .same ?_ | refine .cons ?_) (bse ?_ rfl)
    unfold tabS
    rw [if_pos hc]
    simp only [catS, app_nil, app_nil', app_assoc]
end Go.Proofs.YtklncofkcfjkeaaGreatDoor
