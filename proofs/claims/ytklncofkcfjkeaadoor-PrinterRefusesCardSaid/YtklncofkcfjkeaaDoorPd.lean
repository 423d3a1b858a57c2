
/- Types and values. -/
import Derived.Test.YtklncofkcfjkeaaDoorPc
set_option linter.unusedSimpArgs false
set_option linter.unusedVariables false
set_option maxRecDepth 100000
namespace Go.Proofs.YtklncofkcfjkeaaDoor
open Go.Sx Go.Proofs

theorem bi {n m : Int} (h : n = m) : AV.v (.int .i64 n) = iv m := by rw [h]
def Num (t : Ty) : Prop := t.kind = 2 ∨ t.kind = 3
instance (t : Ty) : Decidable (Num t) := inferInstanceAs (Decidable (_ ∨ _))
theorem isNumber_ok (t : Ty) : Pure Tryd.prog 30 [.agg t.cells] (.v (.bool (decide (Num t)))) := by
  refine Pure.runk (fun _ => 0) Tryd.func30 comp30 era30 (Nat.le_of_ble_eq_true rfl) fun σ => ?_
  repeat' (first | exact .nil | refine .k0 ?_ | refine .k1 ?_ | refine .k2 ?_ | refine .k3 ?_ | refine .k4 ?_ | refine .k5 ?_ | refine .k6 ?_ | refine .k7 ?_ | refine .k8 ?_ | refine .k9 ?_ | (refine .cd ?_ ?_ <;> first | with_reducible exact tF | with_reducible exact fT | (intro hc; first | exact kf hc (by assumption) | exact kt hc (by assumption) | skip)) | refine .r1 ?_ ?_ | (refine .l1 ?_; intro b) | (refine .m1 ?_ ?_; intro b) | (refine .m2 ?_ ?_; intro hlen) | (refine .m3 ?_ ?_; intro hlen) | refine .t1 ?_ ?_ ?_ | refine .t2 ?_ ?_ ?_ | refine .t3 ?_ ?_ ?_ | refine .t4 ?_ ?_ ?_ | (refine .l2 ?_; intro b) | refine .u1 ?_ ?_ ?_ (fun b u c => ?_) | refine .u2 ?_ ?_ ?_ (fun b u c => ?_) | refine .an rfl (by intro hob; first | exact name_ok _ | exact nameR_ok _ | exact unitCheck_ok _ | exact unitCheckR_ok _ | exact containsF_ok _ | exact isNumber_ok _ | exact number_ok _) ?_ ?_ | refine .t5 ?_ ?_ ?_ | refine .t6 ?_ ?_ ?_ | refine .t7 ?_ ?_ ?_ | refine .r2 ?_ ?_ | refine .r3 ?_ ?_ | refine .r4 ?_ ?_ | refine .r5 ?_ ?_ | (refine .l3 ?_; intro b) | refine .r6 ?_ ?_ | refine .r7 ?_ ?_ | refine .r8 ?_ ?_ | refine .r9 ?_ ?_ | refine .ra ?_ ?_ | (show List.all _ _ = true; rfl) | (show (_ : Nat) = _; rfl))
  try any_goals ((intro hob; first | (simp_all; done) | (simp only [BL] at *; first | (simp_all; done) | omega)))
  all_goals (try simp only [BL] at *)
  · (((refine Sx.Fin.intro (by repeat' first | exact .refl _ | refine .same ?_ | refine .cons ?_) (bd ?_); (try simp only [BL] at *); (try simp only [Low, Dig, Wch, and_assoc] at *))); try omega)
    unfold Num; omega
def tyErr (t : Ty) : Int :=
  if t.kind < 1 ∨ t.kind > 5 ∨ (t.unit ≠ [] ∧ ¬ Num t) ∨ (t.kind = 5 ∧ ¬ Name t.of) ∨ (t.kind ≠ 5 ∧ t.of ≠ ⟨#[]⟩) then 3
  else if unitErr t.unit ≠ 0 ∨ ∃ f ∈ t.unit, ¬ Name f.name then 70 else 0
theorem name_ne {s : Str} (h : Name s) : s ≠ ⟨#[]⟩ := fun e => by have := h.1.1; rw [size_zero.2 e] at this; omega
theorem tyErr_3 {t : Ty} (h : t.kind < 1 ∨ t.kind > 5 ∨ (t.unit ≠ [] ∧ ¬ Num t) ∨ (t.kind = 5 ∧ ¬ Name t.of) ∨ (t.kind ≠ 5 ∧ t.of ≠ ⟨#[]⟩)) : tyErr t = 3 := if_pos h
theorem tyErr_70 {t : Ty} (h : ¬ (t.kind < 1 ∨ t.kind > 5 ∨ (t.unit ≠ [] ∧ ¬ Num t) ∨ (t.kind = 5 ∧ ¬ Name t.of) ∨ (t.kind ≠ 5 ∧ t.of ≠ ⟨#[]⟩))) (h' : unitErr t.unit ≠ 0 ∨ ∃ f ∈ t.unit, ¬ Name f.name) : tyErr t = 70 := (if_neg h).trans (if_pos h')
theorem tyErr_0 {t : Ty} (h : ¬ (t.kind < 1 ∨ t.kind > 5 ∨ (t.unit ≠ [] ∧ ¬ Num t) ∨ (t.kind = 5 ∧ ¬ Name t.of) ∨ (t.kind ≠ 5 ∧ t.of ≠ ⟨#[]⟩))) (h' : ¬ (unitErr t.unit ≠ 0 ∨ ∃ f ∈ t.unit, ¬ Name f.name)) : tyErr t = 0 := (if_neg h).trans (if_neg h')
theorem len_pos {α : Type} {l : List α} : 0 < (l.length : Int) ↔ l ≠ [] := by cases l <;> simp <;> omega
theorem type_ok (t : Ty) : Pure Tryd.prog 12 [.agg t.cells] (iv (tyErr t)) := by
  have hl := @len_pos Fac t.unit
  have hn := @name_ne t.of
  refine Pure.runk (fun _ => 0) Tryd.func12 comp12 era12 (Nat.le_of_ble_eq_true rfl) fun σ => ?_
  repeat' (first | exact .nil | refine .k0 ?_ | refine .k1 ?_ | refine .k2 ?_ | refine .k3 ?_ | refine .k4 ?_ | refine .k5 ?_ | refine .k6 ?_ | refine .k7 ?_ | refine .k8 ?_ | refine .k9 ?_ | (refine .cd ?_ ?_ <;> first | with_reducible exact tF | with_reducible exact fT | (intro hc; first | exact kf hc (by assumption) | exact kt hc (by assumption) | skip)) | refine .r1 ?_ ?_ | (refine .l1 ?_; intro b) | (refine .m1 ?_ ?_; intro b) | (refine .m2 ?_ ?_; intro hlen) | (refine .m3 ?_ ?_; intro hlen) | refine .t1 ?_ ?_ ?_ | refine .t2 ?_ ?_ ?_ | refine .t3 ?_ ?_ ?_ | refine .t4 ?_ ?_ ?_ | (refine .l2 ?_; intro b) | refine .u1 ?_ ?_ ?_ (fun b u c => ?_) | refine .u2 ?_ ?_ ?_ (fun b u c => ?_) | refine .an rfl (by intro hob; first | exact name_ok _ | exact nameR_ok _ | exact unitCheck_ok _ | exact unitCheckR_ok _ | exact containsF_ok _ | exact isNumber_ok _ | exact number_ok _) ?_ ?_ | refine .t5 ?_ ?_ ?_ | refine .t6 ?_ ?_ ?_ | refine .t7 ?_ ?_ ?_ | refine .r2 ?_ ?_ | refine .r3 ?_ ?_ | refine .r4 ?_ ?_ | refine .r5 ?_ ?_ | (refine .l3 ?_; intro b) | refine .r6 ?_ ?_ | refine .r7 ?_ ?_ | refine .r8 ?_ ?_ | refine .r9 ?_ ?_ | refine .ra ?_ ?_ | (show List.all _ _ = true; rfl) | (show (_ : Nat) = _; rfl))
  try any_goals ((intro hob; first | (simp_all; done) | (simp only [BL] at *; first | (simp_all; done) | omega)))
  all_goals (try simp only [BL] at *)
  · rw [tyErr_3 (by grind)]
    (refine Sx.Fin.wk (by repeat' first | exact .refl _ | refine .same ?_ | refine .cons ?_) ?_; repeat' first | exact .refl _ | exact .nil | refine .cons ?_ ?_ | refine .tup ?_ | refine .agg ?_ | exact .sl | exact .own _)
  · cases (decide (t.kind = 5) == !decide (t.of = ⟨#[]⟩)) <;> simp
  · rw [tyErr_3 (by grind)]
    (refine Sx.Fin.wk (by repeat' first | exact .refl _ | refine .same ?_ | refine .cons ?_) ?_; repeat' first | exact .refl _ | exact .nil | refine .cons ?_ ?_ | refine .tup ?_ | refine .agg ?_ | exact .sl | exact .own _)
  · rename_i h1 h2
    rw [tyErr_70 (by grind) hc]
    (refine Sx.Fin.wk (by repeat' first | exact .refl _ | refine .same ?_ | refine .cons ?_) ?_; repeat' first | exact .refl _ | exact .nil | refine .cons ?_ ?_ | refine .tup ?_ | refine .agg ?_ | exact .sl | exact .own _)
  · rename_i h1 h2
    rw [tyErr_0 (by grind) (by grind)]
    (refine Sx.Fin.wk (by repeat' first | exact .refl _ | refine .same ?_ | refine .cons ?_) ?_; repeat' first | exact .refl _ | exact .nil | refine .cons ?_ ?_ | refine .tup ?_ | refine .agg ?_ | exact .sl | exact .own _)

def pr (low : Nat) (c : UInt8) : Prop := low ≤ c.toNat ∧ c.toNat ≤ 126 ∧ c.toNat ≠ 34 ∧ c.toNat ≠ 92
instance (low : Nat) (c : UInt8) : Decidable (pr low c) := inferInstanceAs (Decidable (_ ∧ _ ∧ _ ∧ _))
def Prt (s : Str) (low : Nat) : Prop := ∀ i, i < s.size → pr low (byteAt s i)
instance (s : Str) (low : Nat) : Decidable (Prt s low) := inferInstanceAs (Decidable (∀ i, i < s.size → _))
def fieldsOK (v : Val) : Prop := 0 ≤ v.kind ∧ v.kind ≤ 5 ∧ (v.kind ≤ 3 → v.s = ⟨#[]⟩) ∧ (v.kind = 0 → v.n = 0) ∧ (v.kind = 1 → v.n = 0 ∨ v.n = 1) ∧ (4 ≤ v.kind → v.n = 0)
instance (v : Val) : Decidable (fieldsOK v) := inferInstanceAs (Decidable (_ ∧ _ ∧ _ ∧ _ ∧ _ ∧ _))
def valErr (v : Val) : Int :=
  if ¬ fieldsOK v then 1
  else if v.n < -1152921504606846976 ∨ v.n > 1152921504606846976 ∨ (v.kind = 4 ∧ v.s.size > 64) ∨ (v.kind = 5 ∧ v.s.size > 32) then 2
  else if (v.kind = 4 ∧ ¬ Prt v.s 32) ∨ (v.kind = 5 ∧ (v.s = ⟨#[]⟩ ∨ ¬ Prt v.s 33)) then 3 else 0
theorem value_ok (v : Val) : Pure Tryd.prog 55 [.agg v.cells] (iv (valErr v)) := by
  refine Pure.runk (fun _ => 0) Tryd.func55 comp55 era55 (Nat.le_of_ble_eq_true rfl) fun σ => ?_
  repeat' (first | exact .nil | refine .k0 ?_ | refine .k1 ?_ | refine .k2 ?_ | refine .k3 ?_ | refine .k4 ?_ | refine .k5 ?_ | refine .k6 ?_ | refine .k7 ?_ | refine .k8 ?_ | refine .k9 ?_ | (refine .cd ?_ ?_ <;> first | with_reducible exact tF | with_reducible exact fT | (intro hc; first | exact kf hc (by assumption) | exact kt hc (by assumption) | skip)) | refine .r1 ?_ ?_ | (refine .l1 ?_; intro b) | (refine .m1 ?_ ?_; intro b) | (refine .m2 ?_ ?_; intro hlen) | (refine .m3 ?_ ?_; intro hlen) | refine .t1 ?_ ?_ ?_ | refine .t2 ?_ ?_ ?_ | refine .t3 ?_ ?_ ?_ | refine .t4 ?_ ?_ ?_ | (refine .l2 ?_; intro b) | refine .u1 ?_ ?_ ?_ (fun b u c => ?_) | refine .u2 ?_ ?_ ?_ (fun b u c => ?_) | refine .an rfl (by intro hob; first | exact printable_ok _ 32 (by first | omega | (simp only [BL] at *; omega)) | exact printable_ok _ 33 (by first | omega | (simp only [BL] at *; omega)) | exact fields_ok _ | exact text_ok _ | exact key_ok _ | exact inRange_ok _) ?_ ?_ | refine .t5 ?_ ?_ ?_ | refine .t6 ?_ ?_ ?_ | refine .t7 ?_ ?_ ?_ | refine .r2 ?_ ?_ | refine .r3 ?_ ?_ | refine .r4 ?_ ?_ | refine .r5 ?_ ?_ | (refine .l3 ?_; intro b) | refine .r6 ?_ ?_ | refine .r7 ?_ ?_ | refine .r8 ?_ ?_ | refine .r9 ?_ ?_ | refine .ra ?_ ?_ | (show List.all _ _ = true; rfl) | (show (_ : Nat) = _; rfl))
  try any_goals ((intro hob; first | (simp_all; done) | (simp only [BL] at *; first | (simp_all; done) | omega)))
  all_goals (try simp only [BL] at *)
  any_goals (refine Sx.Fin.intro (by repeat' first | exact .refl _ | refine .same ?_ | refine .cons ?_) (bi ?_); unfold valErr fieldsOK; grind)
  · refine WK_loop (fun n rg σ' => ∃ i : Nat, i ≤ v.s.size ∧ n = v.s.size - i ∧ (∀ j, j < i → pr 33 (byteAt v.s j)) ∧ σ' = (1, b, Blk.cells v.cells) :: σ ∧ rg = [(1, .lp 1 b 0), (6, .v (.int .u8 33)), (88, iv v.s.size), (89, iv i)]) v.s.size rfl ⟨_, _, by repeat' first | exact .row | exact .refl _ | exact .nil | refine .cons ?_ ?_ | refine .tup ?_ | refine .agg ?_ | exact .sl | exact .own _ | exact .tag, by repeat' first | exact .refl _ | refine .same ?_ | refine .cons ?_, 0, Nat.zero_le _, rfl, fun j hj => absurd hj (by omega), rfl, rfl⟩ ?_
    rintro n _ _ ⟨i, hi, hn, hp, rfl, rfl⟩
    repeat' (first | exact .nil | refine .k0 ?_ | refine .k1 ?_ | refine .k2 ?_ | refine .k3 ?_ | refine .k4 ?_ | refine .k5 ?_ | refine .k6 ?_ | refine .k7 ?_ | refine .k8 ?_ | refine .k9 ?_ | (refine .cd ?_ ?_ <;> first | with_reducible exact tF | with_reducible exact fT | (intro hc; first | exact kf hc (by assumption) | exact kt hc (by assumption) | skip)) | refine .r1 ?_ ?_ | (refine .l1 ?_; intro b) | (refine .m1 ?_ ?_; intro b) | (refine .m2 ?_ ?_; intro hlen) | (refine .m3 ?_ ?_; intro hlen) | refine .t1 ?_ ?_ ?_ | refine .t2 ?_ ?_ ?_ | refine .t3 ?_ ?_ ?_ | refine .t4 ?_ ?_ ?_ | (refine .l2 ?_; intro b) | refine .u1 ?_ ?_ ?_ (fun b u c => ?_) | refine .u2 ?_ ?_ ?_ (fun b u c => ?_) | refine .an rfl (by intro hob; first | exact printable_ok _ 32 (by first | omega | (simp only [BL] at *; omega)) | exact printable_ok _ 33 (by first | omega | (simp only [BL] at *; omega)) | exact fields_ok _ | exact text_ok _ | exact key_ok _ | exact inRange_ok _) ?_ ?_ | refine .t5 ?_ ?_ ?_ | refine .t6 ?_ ?_ ?_ | refine .t7 ?_ ?_ ?_ | refine .r2 ?_ ?_ | refine .r3 ?_ ?_ | refine .r4 ?_ ?_ | refine .r5 ?_ ?_ | (refine .l3 ?_; intro b) | refine .r6 ?_ ?_ | refine .r7 ?_ ?_ | refine .r8 ?_ ?_ | refine .r9 ?_ ?_ | refine .ra ?_ ?_ | (show List.all _ _ = true; rfl) | (show (_ : Nat) = _; rfl))
    try any_goals ((intro hob; first | (simp_all; done) | (simp only [BL] at *; first | (simp_all; done) | omega)))
    all_goals (try simp only [BL] at *)
    · refine Sx.Fin.intro (by repeat' first | exact .refl _ | refine .same ?_ | refine .cons ?_) (bi ?_)
      have : ¬ Prt v.s 33 := fun h => by have := h i (by omega); unfold pr at this; omega
      unfold valErr fieldsOK; grind
    · refine ⟨v.s.size - (i + 1), by omega, _, _, by repeat' first | exact .row | exact .refl _ | exact .nil | refine .cons ?_ ?_ | refine .tup ?_ | refine .agg ?_ | exact .sl | exact .own _ | exact .tag, by repeat' first | exact .refl _ | refine .same ?_ | refine .cons ?_, i + 1, by omega, rfl, cons_lt hp ?_, rfl, by rw [i64w (by omega)]; rfl⟩
      unfold pr; omega
    · refine Sx.Fin.intro (by repeat' first | exact .refl _ | refine .same ?_ | refine .cons ?_) (bi ?_)
      have : Prt v.s 33 := fun j hj => hp j (by omega)
      unfold valErr fieldsOK; grind
  · refine WK_loop (fun n rg σ' => ∃ i : Nat, i ≤ v.s.size ∧ n = v.s.size - i ∧ (∀ j, j < i → pr 32 (byteAt v.s j)) ∧ σ' = (1, b, Blk.cells v.cells) :: σ ∧ rg = [(1, .lp 1 b 0), (6, .v (.int .u8 32)), (88, iv v.s.size), (89, iv i)]) v.s.size rfl ⟨_, _, by repeat' first | exact .row | exact .refl _ | exact .nil | refine .cons ?_ ?_ | refine .tup ?_ | refine .agg ?_ | exact .sl | exact .own _ | exact .tag, by repeat' first | exact .refl _ | refine .same ?_ | refine .cons ?_, 0, Nat.zero_le _, rfl, fun j hj => absurd hj (by omega), rfl, rfl⟩ ?_
    rintro n _ _ ⟨i, hi, hn, hp, rfl, rfl⟩
    repeat' (first | exact .nil | refine .k0 ?_ | refine .k1 ?_ | refine .k2 ?_ | refine .k3 ?_ | refine .k4 ?_ | refine .k5 ?_ | refine .k6 ?_ | refine .k7 ?_ | refine .k8 ?_ | refine .k9 ?_ | (refine .cd ?_ ?_ <;> first | with_reducible exact tF | with_reducible exact fT | (intro hc; first | exact kf hc (by assumption) | exact kt hc (by assumption) | skip)) | refine .r1 ?_ ?_ | (refine .l1 ?_; intro b) | (refine .m1 ?_ ?_; intro b) | (refine .m2 ?_ ?_; intro hlen) | (refine .m3 ?_ ?_; intro hlen) | refine .t1 ?_ ?_ ?_ | refine .t2 ?_ ?_ ?_ | refine .t3 ?_ ?_ ?_ | refine .t4 ?_ ?_ ?_ | (refine .l2 ?_; intro b) | refine .u1 ?_ ?_ ?_ (fun b u c => ?_) | refine .u2 ?_ ?_ ?_ (fun b u c => ?_) | refine .an rfl (by intro hob; first | exact printable_ok _ 32 (by first | omega | (simp only [BL] at *; omega)) | exact printable_ok _ 33 (by first | omega | (simp only [BL] at *; omega)) | exact fields_ok _ | exact text_ok _ | exact key_ok _ | exact inRange_ok _) ?_ ?_ | refine .t5 ?_ ?_ ?_ | refine .t6 ?_ ?_ ?_ | refine .t7 ?_ ?_ ?_ | refine .r2 ?_ ?_ | refine .r3 ?_ ?_ | refine .r4 ?_ ?_ | refine .r5 ?_ ?_ | (refine .l3 ?_; intro b) | refine .r6 ?_ ?_ | refine .r7 ?_ ?_ | refine .r8 ?_ ?_ | refine .r9 ?_ ?_ | refine .ra ?_ ?_ | (show List.all _ _ = true; rfl) | (show (_ : Nat) = _; rfl))
    try any_goals ((intro hob; first | (simp_all; done) | (simp only [BL] at *; first | (simp_all; done) | omega)))
    all_goals (try simp only [BL] at *)
    · refine Sx.Fin.intro (by repeat' first | exact .refl _ | refine .same ?_ | refine .cons ?_) (bi ?_)
      have : ¬ Prt v.s 32 := fun h => by have := h i (by omega); unfold pr at this; omega
      unfold valErr fieldsOK; grind
    · refine ⟨v.s.size - (i + 1), by omega, _, _, by repeat' first | exact .row | exact .refl _ | exact .nil | refine .cons ?_ ?_ | refine .tup ?_ | refine .agg ?_ | exact .sl | exact .own _ | exact .tag, by repeat' first | exact .refl _ | refine .same ?_ | refine .cons ?_, i + 1, by omega, rfl, cons_lt hp ?_, rfl, by rw [i64w (by omega)]; rfl⟩
      unfold pr; omega
    · refine Sx.Fin.intro (by repeat' first | exact .refl _ | refine .same ?_ | refine .cons ?_) (bi ?_)
      have : Prt v.s 32 := fun j hj => hp j (by omega)
      unfold valErr fieldsOK; grind
end Go.Proofs.YtklncofkcfjkeaaDoor
