
/- Lists of strings and of factors; units; types. -/
import Derived.Test.YtklncofkcfjkeaaGreatDoorPa
set_option linter.unusedSimpArgs false
set_option linter.unusedVariables false
set_option maxRecDepth 100000
namespace Go.Proofs.YtklncofkcfjkeaaGreatDoor
open Go.Sx Go.Proofs

/-- Where a property holds first; -1 if nowhere. -/
def firstIdx {α : Type} (p : α → Bool) : List α → Nat → Int
  | [], _ => -1
  | x :: l, k => if p x then k else firstIdx p l (k + 1)
theorem firstIdx_ge {α : Type} (p : α → Bool) : ∀ (l : List α) (k : Nat), 0 ≤ firstIdx p l k ↔ ∃ x ∈ l, p x = true
  | [], k => by simp [firstIdx]
  | x :: l, k => by
    unfold firstIdx
    cases h : p x with
    | true => simp [h]
    | false => simp [h, firstIdx_ge p l (k + 1)]
theorem firstIdx_no {α : Type} {p : α → Bool} : ∀ {l : List α} {k : Nat}, (∀ x ∈ l, p x = false) → firstIdx p l k = -1
  | [], k, _ => rfl
  | x :: l, k, h => by unfold firstIdx; rw [h x (by simp)]; exact firstIdx_no fun y hy => h y (by simp [hy])
theorem firstIdx_at {α : Type} [Inhabited α] {p : α → Bool} : ∀ {l : List α} {k i : Nat}, (∀ j, j < i → p (l.getD j default) = false) → i < l.length → p (l.getD i default) = true → firstIdx p l k = ((k + i : Nat) : Int)
  | [], k, i, _, h, _ => absurd h (by simp)
  | x :: l, k, 0, _, _, h => by
    have h : p x = true := h
    unfold firstIdx; rw [h]; simp
  | x :: l, k, i + 1, ha, hi, h => by
    have h0 : p x = false := ha 0 (by omega)
    unfold firstIdx
    rw [h0]
    simp only [Bool.false_eq_true, if_false]
    rw [firstIdx_at (k := k + 1) (i := i) (fun j hj => ha (j + 1) (by omega)) (by simpa using hi) h]
    congr 1; omega
theorem take_all {α : Type} [Inhabited α] {p : α → Prop} {l : List α} (h : ∀ j, j < l.length → p (l.getD j default)) : ∀ x ∈ l, p x := fun x hx => by
  obtain ⟨i, hi, rfl⟩ := List.mem_iff_getElem.1 hx
  have := h i hi
  rwa [getD_eq hi] at this

theorem indexS_ok (l : List Str) (x : Str) : Pure Tryz.prog 117 [.sl false 1 (l.map strRow), sv x] (iv (firstIdx (fun y => decide (x = y)) l 0)) := by
  refine Pure.runk (fun _ => 0) Tryz.func117 comp117 era117 (Nat.le_of_ble_eq_true rfl) fun σ => ?_
  repeat' (first | exact .nil | refine .k0 ?_ | refine .k1 ?_ | refine .k2 ?_ | refine .k3 ?_ | refine .k4 ?_ | refine .k5 ?_ | refine .k6 ?_ | refine .k7 ?_ | refine .k8 ?_ | refine .k9 ?_ | (refine .cd ?_ ?_ <;> first | with_reducible exact tF | with_reducible exact fT | (intro hc; first | exact kf hc (by assumption) | exact kt hc (by assumption) | skip)) | refine .r1 ?_ ?_ | (refine .l1 ?_; intro b) | (refine .m1 ?_ ?_; intro b) | (refine .m2 ?_ ?_; intro hlen) | (refine .m3 ?_ ?_; intro hlen) | refine .t1 ?_ ?_ ?_ | refine .t2 ?_ ?_ ?_ | refine .t3 ?_ ?_ ?_ | refine .t4 ?_ ?_ ?_ | (refine .l2 ?_; intro b) | refine .u1 ?_ ?_ ?_ (fun b u c => ?_) | refine .u2 ?_ ?_ ?_ (fun b u c => ?_) | refine .an rfl (by intro hob; first | fail) ?_ ?_ | refine .t5 ?_ ?_ ?_ | refine .t6 ?_ ?_ ?_ | refine .t7 ?_ ?_ ?_ | refine .r2 ?_ ?_ | refine .r3 ?_ ?_ | refine .r4 ?_ ?_ | refine .r5 ?_ ?_ | (refine .l3 ?_; intro b) | refine .r6 ?_ ?_ | refine .r7 ?_ ?_ | refine .r8 ?_ ?_ | refine .r9 ?_ ?_ | refine .ra ?_ ?_ | (show List.all _ _ = true; rfl) | (show (_ : Nat) = _; rfl))
  try any_goals ((intro hob; first | (simp_all; done) | (simp only [BL] at *; first | (simp_all; done) | omega)))
  all_goals (try simp only [BL] at *)
  refine WK_loop (fun n rg σ' => ∃ i : Nat, i ≤ l.length ∧ n = l.length - i ∧ (∀ j, j < i → ¬ x = l.getD j default) ∧ σ' = σ ∧ rg = [(0, .sl false 1 (l.map strRow)), (1, sv x), (7, iv l.length), (8, iv i)]) l.length rfl ⟨_, _, by repeat' first | exact .row | exact .refl _ | exact .nil | refine .cons ?_ ?_ | refine .tup ?_ | refine .agg ?_ | exact .sl | exact .own _ | exact .tag, by repeat' first | exact .refl _ | refine .same ?_ | refine .cons ?_, 0, Nat.zero_le _, rfl, fun j hj => absurd hj (by omega), rfl, rfl⟩ ?_
  rintro n _ _ ⟨i, hi, hn, hp, rfl, rfl⟩
  repeat' (first | exact .nil | refine .k0 ?_ | refine .k1 ?_ | refine .k2 ?_ | refine .k3 ?_ | refine .k4 ?_ | refine .k5 ?_ | refine .k6 ?_ | refine .k7 ?_ | refine .k8 ?_ | refine .k9 ?_ | (refine .cd ?_ ?_ <;> first | with_reducible exact tF | with_reducible exact fT | (intro hc; first | exact kf hc (by assumption) | exact kt hc (by assumption) | skip)) | refine .r1 ?_ ?_ | (refine .l1 ?_; intro b) | (refine .m1 ?_ ?_; intro b) | (refine .m2 ?_ ?_; intro hlen) | (refine .m3 ?_ ?_; intro hlen) | refine .t1 ?_ ?_ ?_ | refine .t2 ?_ ?_ ?_ | refine .t3 ?_ ?_ ?_ | refine .t4 ?_ ?_ ?_ | (refine .l2 ?_; intro b) | refine .u1 ?_ ?_ ?_ (fun b u c => ?_) | refine .u2 ?_ ?_ ?_ (fun b u c => ?_) | refine .an rfl (by intro hob; first | fail) ?_ ?_ | refine .t5 ?_ ?_ ?_ | refine .t6 ?_ ?_ ?_ | refine .t7 ?_ ?_ ?_ | refine .r2 ?_ ?_ | refine .r3 ?_ ?_ | refine .r4 ?_ ?_ | refine .r5 ?_ ?_ | (refine .l3 ?_; intro b) | refine .r6 ?_ ?_ | refine .r7 ?_ ?_ | refine .r8 ?_ ?_ | refine .r9 ?_ ?_ | refine .ra ?_ ?_ | (show List.all _ _ = true; rfl) | (show (_ : Nat) = _; rfl))
  try any_goals ((intro hob; first | (simp_all; done) | (simp only [BL] at *; first | (simp_all; done) | omega)))
  all_goals (try simp only [BL] at *)
  · rw [firstIdx_at (p := fun y => decide (x = y)) (l := l) (k := 0) (i := i) (fun j hj => decide_eq_false (hp j hj)) (by omega) (decide_eq_true hc), Nat.zero_add]
    (refine Sx.Fin.wk (by repeat' first | exact .refl _ | refine .same ?_ | refine .cons ?_) ?_; repeat' first | exact .refl _ | exact .nil | refine .cons ?_ ?_ | refine .tup ?_ | refine .agg ?_ | exact .sl | exact .own _)
  · refine ⟨l.length - (i + 1), by omega, _, _, by repeat' first | exact .row | exact .refl _ | exact .nil | refine .cons ?_ ?_ | refine .tup ?_ | refine .agg ?_ | exact .sl | exact .own _ | exact .tag, by repeat' first | exact .refl _ | refine .same ?_ | refine .cons ?_, i + 1, by omega, rfl, cons_lt hp hc, rfl, by rw [up1 (by omega) hlen]⟩
  · rw [firstIdx_no (fun y hy => decide_eq_false (take_all (p := fun y => ¬ x = y) (fun j hj => hp j (by omega)) y hy))]
    (refine Sx.Fin.wk (by repeat' first | exact .refl _ | refine .same ?_ | refine .cons ?_) ?_; repeat' first | exact .refl _ | exact .nil | refine .cons ?_ ?_ | refine .tup ?_ | refine .agg ?_ | exact .sl | exact .own _)
theorem containsS_ok (l : List Str) (x : Str) : Pure Tryz.prog 91 [.sl false 1 (l.map strRow), sv x] (.v (.bool (decide (∃ y ∈ l, x = y)))) := by
  refine Pure.runk (fun _ => 0) Tryz.func91 comp91 era91 (Nat.le_of_ble_eq_true rfl) fun σ => ?_
  repeat' (first | exact .nil | refine .k0 ?_ | refine .k1 ?_ | refine .k2 ?_ | refine .k3 ?_ | refine .k4 ?_ | refine .k5 ?_ | refine .k6 ?_ | refine .k7 ?_ | refine .k8 ?_ | refine .k9 ?_ | (refine .cd ?_ ?_ <;> first | with_reducible exact tF | with_reducible exact fT | (intro hc; first | exact kf hc (by assumption) | exact kt hc (by assumption) | skip)) | refine .r1 ?_ ?_ | (refine .l1 ?_; intro b) | (refine .m1 ?_ ?_; intro b) | (refine .m2 ?_ ?_; intro hlen) | (refine .m3 ?_ ?_; intro hlen) | refine .t1 ?_ ?_ ?_ | refine .t2 ?_ ?_ ?_ | refine .t3 ?_ ?_ ?_ | refine .t4 ?_ ?_ ?_ | (refine .l2 ?_; intro b) | refine .u1 ?_ ?_ ?_ (fun b u c => ?_) | refine .u2 ?_ ?_ ?_ (fun b u c => ?_) | refine .an rfl (by intro hob; first | exact indexS_ok _ _) ?_ ?_ | refine .t5 ?_ ?_ ?_ | refine .t6 ?_ ?_ ?_ | refine .t7 ?_ ?_ ?_ | refine .r2 ?_ ?_ | refine .r3 ?_ ?_ | refine .r4 ?_ ?_ | refine .r5 ?_ ?_ | (refine .l3 ?_; intro b) | refine .r6 ?_ ?_ | refine .r7 ?_ ?_ | refine .r8 ?_ ?_ | refine .r9 ?_ ?_ | refine .ra ?_ ?_ | (show List.all _ _ = true; rfl) | (show (_ : Nat) = _; rfl))
  try any_goals ((intro hob; first | (simp_all; done) | (simp only [BL] at *; first | (simp_all; done) | omega)))
  all_goals (try simp only [BL] at *)
  · (refine Sx.Fin.intro (by repeat' first | exact .refl _ | refine .same ?_ | refine .cons ?_) (bd ?_); (try simp only [BL] at *); (try simp only [Low, Dig, Wch, and_assoc] at *))
    rw [firstIdx_ge]
    simp only [decide_eq_true_eq]
theorem one_ok (l : List Str) (x : Str) : Pure Tryz.prog 88 [sv x, .sl false 1 (l.map strRow)] (.v (.bool (decide (∃ y ∈ l, x = y)))) := by
  refine Pure.runk (fun _ => 0) Tryz.func88 comp88 era88 (Nat.le_of_ble_eq_true rfl) fun σ => ?_
  repeat' (first | exact .nil | refine .k0 ?_ | refine .k1 ?_ | refine .k2 ?_ | refine .k3 ?_ | refine .k4 ?_ | refine .k5 ?_ | refine .k6 ?_ | refine .k7 ?_ | refine .k8 ?_ | refine .k9 ?_ | (refine .cd ?_ ?_ <;> first | with_reducible exact tF | with_reducible exact fT | (intro hc; first | exact kf hc (by assumption) | exact kt hc (by assumption) | skip)) | refine .r1 ?_ ?_ | (refine .l1 ?_; intro b) | (refine .m1 ?_ ?_; intro b) | (refine .m2 ?_ ?_; intro hlen) | (refine .m3 ?_ ?_; intro hlen) | refine .t1 ?_ ?_ ?_ | refine .t2 ?_ ?_ ?_ | refine .t3 ?_ ?_ ?_ | refine .t4 ?_ ?_ ?_ | (refine .l2 ?_; intro b) | refine .u1 ?_ ?_ ?_ (fun b u c => ?_) | refine .u2 ?_ ?_ ?_ (fun b u c => ?_) | refine .an rfl (by intro hob; first | exact indexS_ok _ _) ?_ ?_ | refine .t5 ?_ ?_ ?_ | refine .t6 ?_ ?_ ?_ | refine .t7 ?_ ?_ ?_ | refine .r2 ?_ ?_ | refine .r3 ?_ ?_ | refine .r4 ?_ ?_ | refine .r5 ?_ ?_ | (refine .l3 ?_; intro b) | refine .r6 ?_ ?_ | refine .r7 ?_ ?_ | refine .r8 ?_ ?_ | refine .r9 ?_ ?_ | refine .ra ?_ ?_ | (show List.all _ _ = true; rfl) | (show (_ : Nat) = _; rfl))
  try any_goals ((intro hob; first | (simp_all; done) | (simp only [BL] at *; first | (simp_all; done) | omega)))
  all_goals (try simp only [BL] at *)
  refine WK_loop (fun n rg σ' => ∃ i : Nat, i ≤ l.length ∧ n = l.length - i ∧ (∀ j, j < i → ¬ l.getD j default = x) ∧ σ' = σ ∧ rg = [(0, sv x), (1, .sl false 1 (l.map strRow)), (5, iv i)]) l.length rfl ⟨_, _, by repeat' first | exact .row | exact .refl _ | exact .nil | refine .cons ?_ ?_ | refine .tup ?_ | refine .agg ?_ | exact .sl | exact .own _ | exact .tag, by repeat' first | exact .refl _ | refine .same ?_ | refine .cons ?_, 0, Nat.zero_le _, rfl, fun j hj => absurd hj (by omega), rfl, rfl⟩ ?_
  rintro n _ _ ⟨i, hi, hn, hp, rfl, rfl⟩
  repeat' (first | exact .nil | refine .k0 ?_ | refine .k1 ?_ | refine .k2 ?_ | refine .k3 ?_ | refine .k4 ?_ | refine .k5 ?_ | refine .k6 ?_ | refine .k7 ?_ | refine .k8 ?_ | refine .k9 ?_ | (refine .cd ?_ ?_ <;> first | with_reducible exact tF | with_reducible exact fT | (intro hc; first | exact kf hc (by assumption) | exact kt hc (by assumption) | skip)) | refine .r1 ?_ ?_ | (refine .l1 ?_; intro b) | (refine .m1 ?_ ?_; intro b) | (refine .m2 ?_ ?_; intro hlen) | (refine .m3 ?_ ?_; intro hlen) | refine .t1 ?_ ?_ ?_ | refine .t2 ?_ ?_ ?_ | refine .t3 ?_ ?_ ?_ | refine .t4 ?_ ?_ ?_ | (refine .l2 ?_; intro b) | refine .u1 ?_ ?_ ?_ (fun b u c => ?_) | refine .u2 ?_ ?_ ?_ (fun b u c => ?_) | refine .an rfl (by intro hob; first | exact indexS_ok _ _) ?_ ?_ | refine .t5 ?_ ?_ ?_ | refine .t6 ?_ ?_ ?_ | refine .t7 ?_ ?_ ?_ | refine .r2 ?_ ?_ | refine .r3 ?_ ?_ | refine .r4 ?_ ?_ | refine .r5 ?_ ?_ | (refine .l3 ?_; intro b) | refine .r6 ?_ ?_ | refine .r7 ?_ ?_ | refine .r8 ?_ ?_ | refine .r9 ?_ ?_ | refine .ra ?_ ?_ | (show List.all _ _ = true; rfl) | (show (_ : Nat) = _; rfl))
  try any_goals ((intro hob; first | (simp_all; done) | (simp only [BL] at *; first | (simp_all; done) | omega)))
  all_goals (try simp only [BL] at *)
  · refine Sx.Fin.intro (by repeat' first | exact .refl _ | refine .same ?_ | refine .cons ?_) (bt ?_)
    exact ⟨_, getD_mem (by omega), hc.symm⟩
  · refine ⟨l.length - (i + 1), by omega, _, _, by repeat' first | exact .row | exact .refl _ | exact .nil | refine .cons ?_ ?_ | refine .tup ?_ | refine .agg ?_ | exact .sl | exact .own _ | exact .tag, by repeat' first | exact .refl _ | refine .same ?_ | refine .cons ?_, i + 1, by omega, rfl, cons_lt hp hc, rfl, by rw [up1 (by omega) hlen]⟩
  · refine Sx.Fin.intro (by repeat' first | exact .refl _ | refine .same ?_ | refine .cons ?_) (bf ?_)
    rintro ⟨y, hy, rfl⟩
    exact take_all (p := fun y => ¬ y = x) (fun j hj => hp j (by omega)) x hy rfl

theorem facNo_ok (f : Fac) : Pure Tryz.prog 73 [.agg f.cells] (.v (.bool (decide (¬ Name f.name)))) := by
  refine Pure.runk (fun _ => 0) Tryz.func73 comp73 era73 (Nat.le_of_ble_eq_true rfl) fun σ => ?_
  repeat' (first | exact .nil | refine .k0 ?_ | refine .k1 ?_ | refine .k2 ?_ | refine .k3 ?_ | refine .k4 ?_ | refine .k5 ?_ | refine .k6 ?_ | refine .k7 ?_ | refine .k8 ?_ | refine .k9 ?_ | (refine .cd ?_ ?_ <;> first | with_reducible exact tF | with_reducible exact fT | (intro hc; first | exact kf hc (by assumption) | exact kt hc (by assumption) | skip)) | refine .r1 ?_ ?_ | (refine .l1 ?_; intro b) | (refine .m1 ?_ ?_; intro b) | (refine .m2 ?_ ?_; intro hlen) | (refine .m3 ?_ ?_; intro hlen) | refine .t1 ?_ ?_ ?_ | refine .t2 ?_ ?_ ?_ | refine .t3 ?_ ?_ ?_ | refine .t4 ?_ ?_ ?_ | (refine .l2 ?_; intro b) | refine .u1 ?_ ?_ ?_ (fun b u c => ?_) | refine .u2 ?_ ?_ ?_ (fun b u c => ?_) | refine .an rfl (by intro hob; first | exact name_ok _) ?_ ?_ | refine .t5 ?_ ?_ ?_ | refine .t6 ?_ ?_ ?_ | refine .t7 ?_ ?_ ?_ | refine .r2 ?_ ?_ | refine .r3 ?_ ?_ | refine .r4 ?_ ?_ | refine .r5 ?_ ?_ | (refine .l3 ?_; intro b) | refine .r6 ?_ ?_ | refine .r7 ?_ ?_ | refine .r8 ?_ ?_ | refine .r9 ?_ ?_ | refine .ra ?_ ?_ | (show List.all _ _ = true; rfl) | (show (_ : Nat) = _; rfl))
  try any_goals ((intro hob; first | (simp_all; done) | (simp only [BL] at *; first | (simp_all; done) | omega)))
  all_goals (try simp only [BL] at *)
  · refine Sx.Fin.intro (by repeat' first | exact .refl _ | refine .same ?_ | refine .cons ?_) ?_
    rw [decide_not]
theorem indexF_ok (u : List Fac) : Pure Tryz.prog 102 [.sl false 2 (u.map Fac.cells), .v (.func (.func 73) #[] #[])] (iv (firstIdx (fun f => decide (¬ Name f.name)) u 0)) := by
  refine Pure.runk (fun _ => 0) Tryz.func102 comp102 era102 (Nat.le_of_ble_eq_true rfl) fun σ => ?_
  repeat' (first | exact .nil | refine .k0 ?_ | refine .k1 ?_ | refine .k2 ?_ | refine .k3 ?_ | refine .k4 ?_ | refine .k5 ?_ | refine .k6 ?_ | refine .k7 ?_ | refine .k8 ?_ | refine .k9 ?_ | (refine .cd ?_ ?_ <;> first | with_reducible exact tF | with_reducible exact fT | (intro hc; first | exact kf hc (by assumption) | exact kt hc (by assumption) | skip)) | refine .r1 ?_ ?_ | (refine .l1 ?_; intro b) | (refine .m1 ?_ ?_; intro b) | (refine .m2 ?_ ?_; intro hlen) | (refine .m3 ?_ ?_; intro hlen) | refine .t1 ?_ ?_ ?_ | refine .t2 ?_ ?_ ?_ | refine .t3 ?_ ?_ ?_ | refine .t4 ?_ ?_ ?_ | (refine .l2 ?_; intro b) | refine .u1 ?_ ?_ ?_ (fun b u c => ?_) | refine .u2 ?_ ?_ ?_ (fun b u c => ?_) | refine .an rfl (by intro hob; first | exact facNo_ok _) ?_ ?_ | refine .t5 ?_ ?_ ?_ | refine .t6 ?_ ?_ ?_ | refine .t7 ?_ ?_ ?_ | refine .r2 ?_ ?_ | refine .r3 ?_ ?_ | refine .r4 ?_ ?_ | refine .r5 ?_ ?_ | (refine .l3 ?_; intro b) | refine .r6 ?_ ?_ | refine .r7 ?_ ?_ | refine .r8 ?_ ?_ | refine .r9 ?_ ?_ | refine .ra ?_ ?_ | (show List.all _ _ = true; rfl) | (show (_ : Nat) = _; rfl))
  try any_goals ((intro hob; first | (simp_all; done) | (simp only [BL] at *; first | (simp_all; done) | omega)))
  all_goals (try simp only [BL] at *)
  refine WK_loop (fun n rg σ' => ∃ i : Nat, i ≤ u.length ∧ n = u.length - i ∧ (∀ j, j < i → Name (u.getD j default).name) ∧ σ' = σ ∧ rg = [(0, .sl false 2 (u.map Fac.cells)), (1, .v (.func (.func 73) #[] #[])), (7, iv u.length), (8, iv i)]) u.length rfl ⟨_, _, by repeat' first | exact .row | exact .refl _ | exact .nil | refine .cons ?_ ?_ | refine .tup ?_ | refine .agg ?_ | exact .sl | exact .own _ | exact .tag, by repeat' first | exact .refl _ | refine .same ?_ | refine .cons ?_, 0, Nat.zero_le _, rfl, fun j hj => absurd hj (by omega), rfl, rfl⟩ ?_
  rintro n _ _ ⟨i, hi, hn, hp, rfl, rfl⟩
  repeat' (first | exact .nil | refine .k0 ?_ | refine .k1 ?_ | refine .k2 ?_ | refine .k3 ?_ | refine .k4 ?_ | refine .k5 ?_ | refine .k6 ?_ | refine .k7 ?_ | refine .k8 ?_ | refine .k9 ?_ | (refine .cd ?_ ?_ <;> first | with_reducible exact tF | with_reducible exact fT | (intro hc; first | exact kf hc (by assumption) | exact kt hc (by assumption) | skip)) | refine .r1 ?_ ?_ | (refine .l1 ?_; intro b) | (refine .m1 ?_ ?_; intro b) | (refine .m2 ?_ ?_; intro hlen) | (refine .m3 ?_ ?_; intro hlen) | refine .t1 ?_ ?_ ?_ | refine .t2 ?_ ?_ ?_ | refine .t3 ?_ ?_ ?_ | refine .t4 ?_ ?_ ?_ | (refine .l2 ?_; intro b) | refine .u1 ?_ ?_ ?_ (fun b u c => ?_) | refine .u2 ?_ ?_ ?_ (fun b u c => ?_) | refine .an rfl (by intro hob; first | exact facNo_ok _) ?_ ?_ | refine .t5 ?_ ?_ ?_ | refine .t6 ?_ ?_ ?_ | refine .t7 ?_ ?_ ?_ | refine .r2 ?_ ?_ | refine .r3 ?_ ?_ | refine .r4 ?_ ?_ | refine .r5 ?_ ?_ | (refine .l3 ?_; intro b) | refine .r6 ?_ ?_ | refine .r7 ?_ ?_ | refine .r8 ?_ ?_ | refine .r9 ?_ ?_ | refine .ra ?_ ?_ | (show List.all _ _ = true; rfl) | (show (_ : Nat) = _; rfl))
  try any_goals ((intro hob; first | (simp_all; done) | (simp only [BL] at *; first | (simp_all; done) | omega)))
  all_goals (try simp only [BL] at *)
  · rw [firstIdx_at (p := fun f : Fac => decide (¬ Name f.name)) (l := u) (k := 0) (i := i) (fun j hj => decide_eq_false (fun h => h (hp j hj))) (by omega) (decide_eq_true hc), Nat.zero_add]
    (refine Sx.Fin.wk (by repeat' first | exact .refl _ | refine .same ?_ | refine .cons ?_) ?_; repeat' first | exact .refl _ | exact .nil | refine .cons ?_ ?_ | refine .tup ?_ | refine .agg ?_ | exact .sl | exact .own _)
  · refine ⟨u.length - (i + 1), by omega, _, _, by repeat' first | exact .row | exact .refl _ | exact .nil | refine .cons ?_ ?_ | refine .tup ?_ | refine .agg ?_ | exact .sl | exact .own _ | exact .tag, by repeat' first | exact .refl _ | refine .same ?_ | refine .cons ?_, i + 1, by omega, rfl, cons_lt hp (Decidable.not_not.1 hc), rfl, by rw [up1 (by omega) hlen]⟩
  · rw [firstIdx_no (fun y hy => decide_eq_false (fun h => h (take_all (p := fun y : Fac => Name y.name) (fun j hj => hp j (by omega)) y hy)))]
    (refine Sx.Fin.wk (by repeat' first | exact .refl _ | refine .same ?_ | refine .cons ?_) ?_; repeat' first | exact .refl _ | exact .nil | refine .cons ?_ ?_ | refine .tup ?_ | refine .agg ?_ | exact .sl | exact .own _)
theorem containsF_ok (u : List Fac) : Pure Tryz.prog 72 [.sl false 2 (u.map Fac.cells), .v (.func (.func 73) #[] #[])] (.v (.bool (decide (∃ f ∈ u, ¬ Name f.name)))) := by
  refine Pure.runk (fun _ => 0) Tryz.func72 comp72 era72 (Nat.le_of_ble_eq_true rfl) fun σ => ?_
  repeat' (first | exact .nil | refine .k0 ?_ | refine .k1 ?_ | refine .k2 ?_ | refine .k3 ?_ | refine .k4 ?_ | refine .k5 ?_ | refine .k6 ?_ | refine .k7 ?_ | refine .k8 ?_ | refine .k9 ?_ | (refine .cd ?_ ?_ <;> first | with_reducible exact tF | with_reducible exact fT | (intro hc; first | exact kf hc (by assumption) | exact kt hc (by assumption) | skip)) | refine .r1 ?_ ?_ | (refine .l1 ?_; intro b) | (refine .m1 ?_ ?_; intro b) | (refine .m2 ?_ ?_; intro hlen) | (refine .m3 ?_ ?_; intro hlen) | refine .t1 ?_ ?_ ?_ | refine .t2 ?_ ?_ ?_ | refine .t3 ?_ ?_ ?_ | refine .t4 ?_ ?_ ?_ | (refine .l2 ?_; intro b) | refine .u1 ?_ ?_ ?_ (fun b u c => ?_) | refine .u2 ?_ ?_ ?_ (fun b u c => ?_) | refine .an rfl (by intro hob; first | exact indexF_ok _) ?_ ?_ | refine .t5 ?_ ?_ ?_ | refine .t6 ?_ ?_ ?_ | refine .t7 ?_ ?_ ?_ | refine .r2 ?_ ?_ | refine .r3 ?_ ?_ | refine .r4 ?_ ?_ | refine .r5 ?_ ?_ | (refine .l3 ?_; intro b) | refine .r6 ?_ ?_ | refine .r7 ?_ ?_ | refine .r8 ?_ ?_ | refine .r9 ?_ ?_ | refine .ra ?_ ?_ | (show List.all _ _ = true; rfl) | (show (_ : Nat) = _; rfl))
  try any_goals ((intro hob; first | (simp_all; done) | (simp only [BL] at *; first | (simp_all; done) | omega)))
  all_goals (try simp only [BL] at *)
  · (refine Sx.Fin.intro (by repeat' first | exact .refl _ | refine .same ?_ | refine .cons ?_) (bd ?_); (try simp only [BL] at *); (try simp only [Low, Dig, Wch, and_assoc] at *))
    rw [firstIdx_ge]
    simp only [decide_eq_true_eq]

theorem eq_of_getD {α : Type} [Inhabited α] {a b : List α} (hl : a.length = b.length) (h : ∀ j, j < a.length → a.getD j default = b.getD j default) : a = b := by
  apply List.ext_getElem hl
  intro i h1 h2
  have := h i h1
  rwa [getD_eq h1, getD_eq h2] at this
theorem fac_ne {a b : Fac} (h : ¬ (a.name = b.name ∧ a.exp = b.exp)) : ¬ a = b := fun e => h (by rw [e]; exact ⟨rfl, rfl⟩)
theorem fac_eq {a b : Fac} (h : a.name = b.name ∧ a.exp = b.exp) : a = b := by cases a; cases b; simp_all

theorem same_ok (a b : List Fac) : Pure Tryz.prog 64 [.sl false 2 (a.map Fac.cells), .sl false 2 (b.map Fac.cells)] (.v (.bool (decide (a = b)))) := by
  refine Pure.runk (fun _ => 0) Tryz.func64 comp64 era64 (Nat.le_of_ble_eq_true rfl) fun σ => ?_
  repeat' (first | exact .nil | refine .k0 ?_ | refine .k1 ?_ | refine .k2 ?_ | refine .k3 ?_ | refine .k4 ?_ | refine .k5 ?_ | refine .k6 ?_ | refine .k7 ?_ | refine .k8 ?_ | refine .k9 ?_ | (refine .cd ?_ ?_ <;> first | with_reducible exact tF | with_reducible exact fT | (intro hc; first | exact kf hc (by assumption) | exact kt hc (by assumption) | skip)) | refine .r1 ?_ ?_ | (refine .l1 ?_; intro b) | (refine .m1 ?_ ?_; intro b) | (refine .m2 ?_ ?_; intro hlen) | (refine .m3 ?_ ?_; intro hlen) | refine .t1 ?_ ?_ ?_ | refine .t2 ?_ ?_ ?_ | refine .t3 ?_ ?_ ?_ | refine .t4 ?_ ?_ ?_ | (refine .l2 ?_; intro b) | refine .u1 ?_ ?_ ?_ (fun b u c => ?_) | refine .u2 ?_ ?_ ?_ (fun b u c => ?_) | refine .an rfl (by intro hob; first | exact indexF_ok _) ?_ ?_ | refine .t5 ?_ ?_ ?_ | refine .t6 ?_ ?_ ?_ | refine .t7 ?_ ?_ ?_ | refine .r2 ?_ ?_ | refine .r3 ?_ ?_ | refine .r4 ?_ ?_ | refine .r5 ?_ ?_ | (refine .l3 ?_; intro b) | refine .r6 ?_ ?_ | refine .r7 ?_ ?_ | refine .r8 ?_ ?_ | refine .r9 ?_ ?_ | refine .ra ?_ ?_ | (show List.all _ _ = true; rfl) | (show (_ : Nat) = _; rfl))
  try any_goals ((intro hob; first | (simp_all; done) | (simp only [BL] at *; first | (simp_all; done) | omega)))
  all_goals (try simp only [BL] at *)
  · refine Sx.Fin.intro (by repeat' first | exact .refl _ | refine .same ?_ | refine .cons ?_) (bf ?_)
    rintro rfl; exact hc rfl
  refine WK_loop (fun n rg σ' => ∃ i : Nat, i ≤ a.length ∧ n = a.length - i ∧ (∀ j, j < i → a.getD j default = b.getD j default) ∧ σ' = σ ∧ rg = [(0, .sl false 2 (a.map Fac.cells)), (1, .sl false 2 (b.map Fac.cells)), (5, iv i)]) a.length rfl ⟨_, _, by repeat' first | exact .row | exact .refl _ | exact .nil | refine .cons ?_ ?_ | refine .tup ?_ | refine .agg ?_ | exact .sl | exact .own _ | exact .tag, by repeat' first | exact .refl _ | refine .same ?_ | refine .cons ?_, 0, Nat.zero_le _, rfl, fun j hj => absurd hj (by omega), rfl, rfl⟩ ?_
  rintro n _ _ ⟨i, hi, hn, hp, rfl, rfl⟩
  repeat' (first | exact .nil | refine .k0 ?_ | refine .k1 ?_ | refine .k2 ?_ | refine .k3 ?_ | refine .k4 ?_ | refine .k5 ?_ | refine .k6 ?_ | refine .k7 ?_ | refine .k8 ?_ | refine .k9 ?_ | (refine .cd ?_ ?_ <;> first | with_reducible exact tF | with_reducible exact fT | (intro hc; first | exact kf hc (by assumption) | exact kt hc (by assumption) | skip)) | refine .r1 ?_ ?_ | (refine .l1 ?_; intro b) | (refine .m1 ?_ ?_; intro b) | (refine .m2 ?_ ?_; intro hlen) | (refine .m3 ?_ ?_; intro hlen) | refine .t1 ?_ ?_ ?_ | refine .t2 ?_ ?_ ?_ | refine .t3 ?_ ?_ ?_ | refine .t4 ?_ ?_ ?_ | (refine .l2 ?_; intro b) | refine .u1 ?_ ?_ ?_ (fun b u c => ?_) | refine .u2 ?_ ?_ ?_ (fun b u c => ?_) | refine .an rfl (by intro hob; first | exact indexF_ok _) ?_ ?_ | refine .t5 ?_ ?_ ?_ | refine .t6 ?_ ?_ ?_ | refine .t7 ?_ ?_ ?_ | refine .r2 ?_ ?_ | refine .r3 ?_ ?_ | refine .r4 ?_ ?_ | refine .r5 ?_ ?_ | (refine .l3 ?_; intro b) | refine .r6 ?_ ?_ | refine .r7 ?_ ?_ | refine .r8 ?_ ?_ | refine .r9 ?_ ?_ | refine .ra ?_ ?_ | (show List.all _ _ = true; rfl) | (show (_ : Nat) = _; rfl))
  try any_goals ((intro hob; first | (simp_all; done) | (simp only [BL] at *; first | (simp_all; done) | omega)))
  all_goals (try simp only [BL] at *)
  · refine Sx.Fin.intro (by repeat' first | exact .refl _ | refine .same ?_ | refine .cons ?_) (bf ?_)
    rintro rfl
    rcases hc with hc | hc <;> exact hc rfl
  · refine ⟨a.length - (i + 1), by omega, _, _, by repeat' first | exact .row | exact .refl _ | exact .nil | refine .cons ?_ ?_ | refine .tup ?_ | refine .agg ?_ | exact .sl | exact .own _ | exact .tag, by repeat' first | exact .refl _ | refine .same ?_ | refine .cons ?_, i + 1, by omega, rfl, cons_lt hp (fac_eq hc), rfl, by rw [up1 (by omega) hlen]⟩
  · refine Sx.Fin.intro (by repeat' first | exact .refl _ | refine .same ?_ | refine .cons ?_) (bt ?_)
    exact eq_of_getD (by omega) (fun j hj => hp j (by omega))
theorem equal_ok (a b : List Fac) : Pure Tryz.prog 118 [.sl false 2 (a.map Fac.cells), .sl false 2 (b.map Fac.cells)] (.v (.bool (decide (a = b)))) := by
  refine Pure.runk (fun _ => 0) Tryz.func118 comp118 era118 (Nat.le_of_ble_eq_true rfl) fun σ => ?_
  repeat' (first | exact .nil | refine .k0 ?_ | refine .k1 ?_ | refine .k2 ?_ | refine .k3 ?_ | refine .k4 ?_ | refine .k5 ?_ | refine .k6 ?_ | refine .k7 ?_ | refine .k8 ?_ | refine .k9 ?_ | (refine .cd ?_ ?_ <;> first | with_reducible exact tF | with_reducible exact fT | (intro hc; first | exact kf hc (by assumption) | exact kt hc (by assumption) | skip)) | refine .r1 ?_ ?_ | (refine .l1 ?_; intro b) | (refine .m1 ?_ ?_; intro b) | (refine .m2 ?_ ?_; intro hlen) | (refine .m3 ?_ ?_; intro hlen) | refine .t1 ?_ ?_ ?_ | refine .t2 ?_ ?_ ?_ | refine .t3 ?_ ?_ ?_ | refine .t4 ?_ ?_ ?_ | (refine .l2 ?_; intro b) | refine .u1 ?_ ?_ ?_ (fun b u c => ?_) | refine .u2 ?_ ?_ ?_ (fun b u c => ?_) | refine .an rfl (by intro hob; first | exact indexF_ok _) ?_ ?_ | refine .t5 ?_ ?_ ?_ | refine .t6 ?_ ?_ ?_ | refine .t7 ?_ ?_ ?_ | refine .r2 ?_ ?_ | refine .r3 ?_ ?_ | refine .r4 ?_ ?_ | refine .r5 ?_ ?_ | (refine .l3 ?_; intro b) | refine .r6 ?_ ?_ | refine .r7 ?_ ?_ | refine .r8 ?_ ?_ | refine .r9 ?_ ?_ | refine .ra ?_ ?_ | (show List.all _ _ = true; rfl) | (show (_ : Nat) = _; rfl))
  try any_goals ((intro hob; first | (simp_all; done) | (simp only [BL] at *; first | (simp_all; done) | omega)))
  all_goals (try simp only [BL] at *)
  · refine Sx.Fin.intro (by repeat' first | exact .refl _ | refine .same ?_ | refine .cons ?_) (bf ?_)
    rintro rfl; exact hc rfl
  refine WK_loop (fun n rg σ' => ∃ i : Nat, i ≤ a.length ∧ n = a.length - i ∧ (∀ j, j < i → a.getD j default = b.getD j default) ∧ σ' = σ ∧ rg = [(0, .sl false 2 (a.map Fac.cells)), (1, .sl false 2 (b.map Fac.cells)), (12, iv a.length), (13, iv i)]) a.length rfl ⟨_, _, by repeat' first | exact .row | exact .refl _ | exact .nil | refine .cons ?_ ?_ | refine .tup ?_ | refine .agg ?_ | exact .sl | exact .own _ | exact .tag, by repeat' first | exact .refl _ | refine .same ?_ | refine .cons ?_, 0, Nat.zero_le _, rfl, fun j hj => absurd hj (by omega), rfl, rfl⟩ ?_
  rintro n _ _ ⟨i, hi, hn, hp, rfl, rfl⟩
  repeat' (first | exact .nil | refine .k0 ?_ | refine .k1 ?_ | refine .k2 ?_ | refine .k3 ?_ | refine .k4 ?_ | refine .k5 ?_ | refine .k6 ?_ | refine .k7 ?_ | refine .k8 ?_ | refine .k9 ?_ | (refine .cd ?_ ?_ <;> first | with_reducible exact tF | with_reducible exact fT | (intro hc; first | exact kf hc (by assumption) | exact kt hc (by assumption) | skip)) | refine .r1 ?_ ?_ | (refine .l1 ?_; intro b) | (refine .m1 ?_ ?_; intro b) | (refine .m2 ?_ ?_; intro hlen) | (refine .m3 ?_ ?_; intro hlen) | refine .t1 ?_ ?_ ?_ | refine .t2 ?_ ?_ ?_ | refine .t3 ?_ ?_ ?_ | refine .t4 ?_ ?_ ?_ | (refine .l2 ?_; intro b) | refine .u1 ?_ ?_ ?_ (fun b u c => ?_) | refine .u2 ?_ ?_ ?_ (fun b u c => ?_) | refine .an rfl (by intro hob; first | exact indexF_ok _) ?_ ?_ | refine .t5 ?_ ?_ ?_ | refine .t6 ?_ ?_ ?_ | refine .t7 ?_ ?_ ?_ | refine .r2 ?_ ?_ | refine .r3 ?_ ?_ | refine .r4 ?_ ?_ | refine .r5 ?_ ?_ | (refine .l3 ?_; intro b) | refine .r6 ?_ ?_ | refine .r7 ?_ ?_ | refine .r8 ?_ ?_ | refine .r9 ?_ ?_ | refine .ra ?_ ?_ | (show List.all _ _ = true; rfl) | (show (_ : Nat) = _; rfl))
  try any_goals ((intro hob; first | (simp_all; done) | (simp only [BL] at *; first | (simp_all; done) | omega)))
  all_goals (try simp only [BL] at *)
  · refine Sx.Fin.intro (by repeat' first | exact .refl _ | refine .same ?_ | refine .cons ?_) (bf ?_)
    rintro rfl
    rcases hc with hc | hc <;> exact hc rfl
  · refine ⟨a.length - (i + 1), by omega, _, _, by repeat' first | exact .row | exact .refl _ | exact .nil | refine .cons ?_ ?_ | refine .tup ?_ | refine .agg ?_ | exact .sl | exact .own _ | exact .tag, by repeat' first | exact .refl _ | refine .same ?_ | refine .cons ?_, i + 1, by omega, rfl, cons_lt hp (fac_eq hc), rfl, by rw [up1 (by omega) hlen]⟩
  · refine Sx.Fin.intro (by repeat' first | exact .refl _ | refine .same ?_ | refine .cons ?_) (bt ?_)
    exact eq_of_getD (by omega) (fun j hj => hp j (by omega))

/-- Strings in order. -/
def leS (a b : Str) : Bool := Op.bytesLess a.toList b.toList || decide (a = b)
def facErr (p : Option Str) (f : Fac) : Int := if ¬ Word f.name then 1 else if f.exp = 0 ∨ f.exp > 8 ∨ f.exp < -8 then 70 else match p with
  | some p => if leS f.name p = true then 3 else 0
  | none => 0
def unitErrL : Option Str → List Fac → Int
  | _, [] => 0
  | p, f :: l => if facErr p f = 0 then unitErrL (some f.name) l else facErr p f
def unitErr (u : List Fac) : Int := if u.length > 4 then 2 else unitErrL none u
def prevAt (u : List Fac) (i : Nat) : Option Str := if i = 0 then none else some (u.getD (i - 1) default).name
theorem unitErrL_step {u : List Fac} {i : Nat} (hi : i < u.length) (h : facErr (prevAt u i) (u.getD i default) = 0) : unitErrL (prevAt u i) (u.drop i) = unitErrL (prevAt u (i + 1)) (u.drop (i + 1)) := by
  rw [drop_get hi, unitErrL, if_pos h]; rfl
theorem unitErrL_end {u : List Fac} {i : Nat} {e : Int} (hi : i < u.length) (h : facErr (prevAt u i) (u.getD i default) = e) (he : e ≠ 0) : unitErrL (prevAt u i) (u.drop i) = e := by
  rw [drop_get hi, unitErrL, if_neg (by rw [h]; exact he), h]
theorem unitCheck_ok (u : List Fac) : Pure Tryz.prog 71 [.sl false 2 (u.map Fac.cells)] (iv (unitErr u)) := by
  refine Pure.runk (fun _ => 0) Tryz.func71 comp71 era71 (Nat.le_of_ble_eq_true rfl) fun σ => ?_
  repeat' (first | exact .nil | refine .k0 ?_ | refine .k1 ?_ | refine .k2 ?_ | refine .k3 ?_ | refine .k4 ?_ | refine .k5 ?_ | refine .k6 ?_ | refine .k7 ?_ | refine .k8 ?_ | refine .k9 ?_ | (refine .cd ?_ ?_ <;> first | with_reducible exact tF | with_reducible exact fT | (intro hc; first | exact kf hc (by assumption) | exact kt hc (by assumption) | skip)) | refine .r1 ?_ ?_ | (refine .l1 ?_; intro b) | (refine .m1 ?_ ?_; intro b) | (refine .m2 ?_ ?_; intro hlen) | (refine .m3 ?_ ?_; intro hlen) | refine .t1 ?_ ?_ ?_ | refine .t2 ?_ ?_ ?_ | refine .t3 ?_ ?_ ?_ | refine .t4 ?_ ?_ ?_ | (refine .l2 ?_; intro b) | refine .u1 ?_ ?_ ?_ (fun b u c => ?_) | refine .u2 ?_ ?_ ?_ (fun b u c => ?_) | refine .an rfl (by intro hob; first | exact word_ok _ | exact wordR_ok _ | exact outside_ok _ 8 (by decide) | exact far_ok _) ?_ ?_ | refine .t5 ?_ ?_ ?_ | refine .t6 ?_ ?_ ?_ | refine .t7 ?_ ?_ ?_ | refine .r2 ?_ ?_ | refine .r3 ?_ ?_ | refine .r4 ?_ ?_ | refine .r5 ?_ ?_ | (refine .l3 ?_; intro b) | refine .r6 ?_ ?_ | refine .r7 ?_ ?_ | refine .r8 ?_ ?_ | refine .r9 ?_ ?_ | refine .ra ?_ ?_ | (show List.all _ _ = true; rfl) | (show (_ : Nat) = _; rfl))
  try any_goals ((intro hob; first | (simp_all; done) | (simp only [BL] at *; first | (simp_all; done) | omega)))
  all_goals (try simp only [BL] at *)
  · rw [unitErr, if_pos (by omega)]
    (refine Sx.Fin.wk (by repeat' first | exact .refl _ | refine .same ?_ | refine .cons ?_) ?_; repeat' first | exact .refl _ | exact .nil | refine .cons ?_ ?_ | refine .tup ?_ | refine .agg ?_ | exact .sl | exact .own _)
  have hu : unitErr u = unitErrL none u := if_neg (by omega)
  refine WK_loop (fun n rg σ' => ∃ i : Nat, i ≤ u.length ∧ n = u.length - i ∧ unitErr u = unitErrL (prevAt u i) (u.drop i) ∧ σ' = σ ∧ rg = [(0, .sl false 2 (u.map Fac.cells)), (8, .sl false 2 (u.map Fac.cells)), (9, iv u.length), (10, iv i)]) u.length rfl ⟨_, _, by repeat' first | exact .row | exact .refl _ | exact .nil | refine .cons ?_ ?_ | refine .tup ?_ | refine .agg ?_ | exact .sl | exact .own _ | exact .tag, by repeat' first | exact .refl _ | refine .same ?_ | refine .cons ?_, 0, Nat.zero_le _, rfl, hu, rfl, rfl⟩ ?_
  rintro n _ _ ⟨i, hi, hn, hp, rfl, rfl⟩
  repeat' (first | exact .nil | refine .k0 ?_ | refine .k1 ?_ | refine .k2 ?_ | refine .k3 ?_ | refine .k4 ?_ | refine .k5 ?_ | refine .k6 ?_ | refine .k7 ?_ | refine .k8 ?_ | refine .k9 ?_ | (refine .cd ?_ ?_ <;> first | with_reducible exact tF | with_reducible exact fT | (intro hc; first | exact kf hc (by assumption) | exact kt hc (by assumption) | skip)) | refine .r1 ?_ ?_ | (refine .l1 ?_; intro b) | (refine .m1 ?_ ?_; intro b) | (refine .m2 ?_ ?_; intro hlen) | (refine .m3 ?_ ?_; intro hlen) | refine .t1 ?_ ?_ ?_ | refine .t2 ?_ ?_ ?_ | refine .t3 ?_ ?_ ?_ | refine .t4 ?_ ?_ ?_ | (refine .l2 ?_; intro b) | refine .u1 ?_ ?_ ?_ (fun b u c => ?_) | refine .u2 ?_ ?_ ?_ (fun b u c => ?_) | refine .an rfl (by intro hob; first | exact word_ok _ | exact wordR_ok _ | exact outside_ok _ 8 (by decide) | exact far_ok _) ?_ ?_ | refine .t5 ?_ ?_ ?_ | refine .t6 ?_ ?_ ?_ | refine .t7 ?_ ?_ ?_ | refine .r2 ?_ ?_ | refine .r3 ?_ ?_ | refine .r4 ?_ ?_ | refine .r5 ?_ ?_ | (refine .l3 ?_; intro b) | refine .r6 ?_ ?_ | refine .r7 ?_ ?_ | refine .r8 ?_ ?_ | refine .r9 ?_ ?_ | refine .ra ?_ ?_ | (show List.all _ _ = true; rfl) | (show (_ : Nat) = _; rfl))
  try any_goals ((intro hob; first | (simp_all; done) | (simp only [BL] at *; first | (simp_all; done) | omega)))
  all_goals (try simp only [BL] at *)
  · rw [hp, unitErrL_end (e := 1) (by omega) (by unfold facErr; rw [if_pos hc]) (by decide)]
    (refine Sx.Fin.wk (by repeat' first | exact .refl _ | refine .same ?_ | refine .cons ?_) ?_; repeat' first | exact .refl _ | exact .nil | refine .cons ?_ ?_ | refine .tup ?_ | refine .agg ?_ | exact .sl | exact .own _)
  · rename_i hw
    rw [hp, unitErrL_end (e := 70) (by omega) (by unfold facErr; rw [if_neg (fun h => h hw), if_pos (by omega)]) (by decide)]
    (refine Sx.Fin.wk (by repeat' first | exact .refl _ | refine .same ?_ | refine .cons ?_) ?_; repeat' first | exact .refl _ | exact .nil | refine .cons ?_ ?_ | refine .tup ?_ | refine .agg ?_ | exact .sl | exact .own _)
  · rename_i hw he
    rw [pred1 (by omega) (by omega), Int.toNat_natCast] at hc
    rw [hp, unitErrL_end (e := 3) (by omega) (by
      unfold facErr; rw [if_neg (fun h => h hw), if_neg (by omega), prevAt, if_neg (by omega)]
      exact if_pos (by simp only [leS, Bool.or_eq_true, decide_eq_true_eq]; exact hc.2)) (by decide)]
    (refine Sx.Fin.wk (by repeat' first | exact .refl _ | refine .same ?_ | refine .cons ?_) ?_; repeat' first | exact .refl _ | exact .nil | refine .cons ?_ ?_ | refine .tup ?_ | refine .agg ?_ | exact .sl | exact .own _)
  · rename_i hw he
    refine ⟨u.length - (i + 1), by omega, _, _, by repeat' first | exact .row | exact .refl _ | exact .nil | refine .cons ?_ ?_ | refine .tup ?_ | refine .agg ?_ | exact .sl | exact .own _ | exact .tag, by repeat' first | exact .refl _ | refine .same ?_ | refine .cons ?_, i + 1, by omega, rfl, ?_, rfl, by rw [up1 (n := u.length) (by omega) (by assumption)]⟩
    rw [hp]
    refine unitErrL_step (by omega) ?_
    unfold facErr; rw [if_neg (fun h => h hw), if_neg (by omega)]
    by_cases h0 : i = 0
    · rw [prevAt, if_pos h0]
    · rw [pred1 (by omega) (by omega), Int.toNat_natCast] at hc
      rw [prevAt, if_neg h0]
      refine if_neg ?_
      rcases hc with hc | hc
      · omega
      · simp only [leS, Bool.or_eq_true, decide_eq_true_eq]
        rintro (h | h)
        · rw [h] at hc; exact Bool.noConfusion hc.1
        · exact hc.2 h
  all_goals (try (intro h0; rw [pred1 (by omega) (by omega)]; omega))
  · rw [hp, List.drop_eq_nil_of_le (by omega), unitErrL]
    (refine Sx.Fin.wk (by repeat' first | exact .refl _ | refine .same ?_ | refine .cons ?_) ?_; repeat' first | exact .refl _ | exact .nil | refine .cons ?_ ?_ | refine .tup ?_ | refine .agg ?_ | exact .sl | exact .own _)
theorem unitCheckR_ok (u : List Fac) : Pure Tryz.prog 76 [.sl false 2 (u.map Fac.cells)] (iv (unitErr u)) := by
  refine Pure.runk (fun _ => 0) Tryz.func76 comp76 era76 (Nat.le_of_ble_eq_true rfl) fun σ => ?_
  repeat' (first | exact .nil | refine .k0 ?_ | refine .k1 ?_ | refine .k2 ?_ | refine .k3 ?_ | refine .k4 ?_ | refine .k5 ?_ | refine .k6 ?_ | refine .k7 ?_ | refine .k8 ?_ | refine .k9 ?_ | (refine .cd ?_ ?_ <;> first | with_reducible exact tF | with_reducible exact fT | (intro hc; first | exact kf hc (by assumption) | exact kt hc (by assumption) | skip)) | refine .r1 ?_ ?_ | (refine .l1 ?_; intro b) | (refine .m1 ?_ ?_; intro b) | (refine .m2 ?_ ?_; intro hlen) | (refine .m3 ?_ ?_; intro hlen) | refine .t1 ?_ ?_ ?_ | refine .t2 ?_ ?_ ?_ | refine .t3 ?_ ?_ ?_ | refine .t4 ?_ ?_ ?_ | (refine .l2 ?_; intro b) | refine .u1 ?_ ?_ ?_ (fun b u c => ?_) | refine .u2 ?_ ?_ ?_ (fun b u c => ?_) | refine .an rfl (by intro hob; first | exact word_ok _ | exact wordR_ok _ | exact outside_ok _ 8 (by decide) | exact far_ok _) ?_ ?_ | refine .t5 ?_ ?_ ?_ | refine .t6 ?_ ?_ ?_ | refine .t7 ?_ ?_ ?_ | refine .r2 ?_ ?_ | refine .r3 ?_ ?_ | refine .r4 ?_ ?_ | refine .r5 ?_ ?_ | (refine .l3 ?_; intro b) | refine .r6 ?_ ?_ | refine .r7 ?_ ?_ | refine .r8 ?_ ?_ | refine .r9 ?_ ?_ | refine .ra ?_ ?_ | (show List.all _ _ = true; rfl) | (show (_ : Nat) = _; rfl))
  try any_goals ((intro hob; first | (simp_all; done) | (simp only [BL] at *; first | (simp_all; done) | omega)))
  all_goals (try simp only [BL] at *)
  · rw [unitErr, if_pos (by omega)]
    (refine Sx.Fin.wk (by repeat' first | exact .refl _ | refine .same ?_ | refine .cons ?_) ?_; repeat' first | exact .refl _ | exact .nil | refine .cons ?_ ?_ | refine .tup ?_ | refine .agg ?_ | exact .sl | exact .own _)
  have hu : unitErr u = unitErrL none u := if_neg (by omega)
  refine WK_loop (fun n rg σ' => ∃ i : Nat, i ≤ u.length ∧ n = u.length - i ∧ unitErr u = unitErrL (prevAt u i) (u.drop i) ∧ σ' = σ ∧ rg = [(0, .sl false 2 (u.map Fac.cells)), (3, iv i)]) u.length rfl ⟨_, _, by repeat' first | exact .row | exact .refl _ | exact .nil | refine .cons ?_ ?_ | refine .tup ?_ | refine .agg ?_ | exact .sl | exact .own _ | exact .tag, by repeat' first | exact .refl _ | refine .same ?_ | refine .cons ?_, 0, Nat.zero_le _, rfl, hu, rfl, rfl⟩ ?_
  rintro n _ _ ⟨i, hi, hn, hp, rfl, rfl⟩
  repeat' (first | exact .nil | refine .k0 ?_ | refine .k1 ?_ | refine .k2 ?_ | refine .k3 ?_ | refine .k4 ?_ | refine .k5 ?_ | refine .k6 ?_ | refine .k7 ?_ | refine .k8 ?_ | refine .k9 ?_ | (refine .cd ?_ ?_ <;> first | with_reducible exact tF | with_reducible exact fT | (intro hc; first | exact kf hc (by assumption) | exact kt hc (by assumption) | skip)) | refine .r1 ?_ ?_ | (refine .l1 ?_; intro b) | (refine .m1 ?_ ?_; intro b) | (refine .m2 ?_ ?_; intro hlen) | (refine .m3 ?_ ?_; intro hlen) | refine .t1 ?_ ?_ ?_ | refine .t2 ?_ ?_ ?_ | refine .t3 ?_ ?_ ?_ | refine .t4 ?_ ?_ ?_ | (refine .l2 ?_; intro b) | refine .u1 ?_ ?_ ?_ (fun b u c => ?_) | refine .u2 ?_ ?_ ?_ (fun b u c => ?_) | refine .an rfl (by intro hob; first | exact word_ok _ | exact wordR_ok _ | exact outside_ok _ 8 (by decide) | exact far_ok _) ?_ ?_ | refine .t5 ?_ ?_ ?_ | refine .t6 ?_ ?_ ?_ | refine .t7 ?_ ?_ ?_ | refine .r2 ?_ ?_ | refine .r3 ?_ ?_ | refine .r4 ?_ ?_ | refine .r5 ?_ ?_ | (refine .l3 ?_; intro b) | refine .r6 ?_ ?_ | refine .r7 ?_ ?_ | refine .r8 ?_ ?_ | refine .r9 ?_ ?_ | refine .ra ?_ ?_ | (show List.all _ _ = true; rfl) | (show (_ : Nat) = _; rfl))
  try any_goals ((intro hob; first | (simp_all; done) | (simp only [BL] at *; first | (simp_all; done) | omega)))
  all_goals (try simp only [BL] at *)
  · rw [hp, unitErrL_end (e := 1) (by omega) (by unfold facErr; rw [if_pos hc]) (by decide)]
    (refine Sx.Fin.wk (by repeat' first | exact .refl _ | refine .same ?_ | refine .cons ?_) ?_; repeat' first | exact .refl _ | exact .nil | refine .cons ?_ ?_ | refine .tup ?_ | refine .agg ?_ | exact .sl | exact .own _)
  · rename_i hw
    rw [hp, unitErrL_end (e := 70) (by omega) (by unfold facErr; rw [if_neg (fun h => h hw), if_pos (by omega)]) (by decide)]
    (refine Sx.Fin.wk (by repeat' first | exact .refl _ | refine .same ?_ | refine .cons ?_) ?_; repeat' first | exact .refl _ | exact .nil | refine .cons ?_ ?_ | refine .tup ?_ | refine .agg ?_ | exact .sl | exact .own _)
  · rename_i hw he
    rw [pred1 (by omega) (by omega), Int.toNat_natCast] at hc
    rw [hp, unitErrL_end (e := 3) (by omega) (by
      unfold facErr; rw [if_neg (fun h => h hw), if_neg (by omega), prevAt, if_neg (by omega)]
      exact if_pos (by simp only [leS, Bool.or_eq_true, decide_eq_true_eq]; exact hc.2)) (by decide)]
    (refine Sx.Fin.wk (by repeat' first | exact .refl _ | refine .same ?_ | refine .cons ?_) ?_; repeat' first | exact .refl _ | exact .nil | refine .cons ?_ ?_ | refine .tup ?_ | refine .agg ?_ | exact .sl | exact .own _)
  · rename_i hw he
    refine ⟨u.length - (i + 1), by omega, _, _, by repeat' first | exact .row | exact .refl _ | exact .nil | refine .cons ?_ ?_ | refine .tup ?_ | refine .agg ?_ | exact .sl | exact .own _ | exact .tag, by repeat' first | exact .refl _ | refine .same ?_ | refine .cons ?_, i + 1, by omega, rfl, ?_, rfl, by rw [up1 (n := u.length) (by omega) (by assumption)]⟩
    rw [hp]
    refine unitErrL_step (by omega) ?_
    unfold facErr; rw [if_neg (fun h => h hw), if_neg (by omega)]
    by_cases h0 : i = 0
    · rw [prevAt, if_pos h0]
    · rw [pred1 (by omega) (by omega), Int.toNat_natCast] at hc
      rw [prevAt, if_neg h0]
      refine if_neg ?_
      rcases hc with hc | hc
      · omega
      · simp only [leS, Bool.or_eq_true, decide_eq_true_eq]
        rintro (h | h)
        · rw [h] at hc; exact Bool.noConfusion hc.1
        · exact hc.2 h
  all_goals (try (intro h0; rw [pred1 (by omega) (by omega)]; omega))
  · rw [hp, List.drop_eq_nil_of_le (by omega), unitErrL]
    (refine Sx.Fin.wk (by repeat' first | exact .refl _ | refine .same ?_ | refine .cons ?_) ?_; repeat' first | exact .refl _ | exact .nil | refine .cons ?_ ?_ | refine .tup ?_ | refine .agg ?_ | exact .sl | exact .own _)

end Go.Proofs.YtklncofkcfjkeaaGreatDoor
