/- Words. -/
import Derived.Test.YtklncofkcfjkeaaGreatDoorCodeA
import Derived.Test.YtklncofkcfjkeaaGreatDoorCodeB
import Derived.Test.YtklncofkcfjkeaaGreatDoorPt
import Derived.Test.YtklncofkcfjkeaaGreatDoorGl
set_option linter.unusedSimpArgs false
set_option linter.unusedVariables false
set_option maxRecDepth 100000
namespace Go.Proofs.YtklncofkcfjkeaaGreatDoor
open Go.Sx Go.Proofs

def Low (c : Nat) : Prop := 97 ≤ c ∧ c ≤ 122
instance (c : Nat) : Decidable (Low c) := inferInstanceAs (Decidable (_ ∧ _))
def Dig (c : Nat) : Prop := 48 ≤ c ∧ c ≤ 57
instance (c : Nat) : Decidable (Dig c) := inferInstanceAs (Decidable (_ ∧ _))
def Wch (c : Nat) : Prop := Low c ∨ Dig c ∨ c = 95
instance (c : Nat) : Decidable (Wch c) := inferInstanceAs (Decidable (_ ∨ _))
def Word (s : Str) : Prop := 1 ≤ s.size ∧ s.size ≤ 24 ∧ Low ((byteAt s 0).toNat) ∧ ∀ i, i < s.size → Wch ((byteAt s i).toNat)
instance (s : Str) : Decidable (Word s) := inferInstanceAs (Decidable (_ ∧ _ ∧ _ ∧ _))
theorem cons_lt {P : Nat → Prop} {i : Nat} (h : ∀ j, j < i → P j) (hi : P i) : ∀ j, j < i + 1 → P j := fun j hj => by
  rcases Nat.lt_or_ge j i with h' | h'
  · exact h j h'
  · obtain rfl : j = i := by omega
    exact hi

theorem outside_ok (n m : Int) (hm : -1000 ≤ m ∧ m ≤ 1000) : Pure Tryz.prog 101 [iv n, iv m] (.v (.bool (decide (n > m ∨ n < -m)))) := by
  refine Pure.runk (fun _ => 0) Tryz.func101 comp101 era101 (Nat.le_of_ble_eq_true rfl) fun σ => ?_
  repeat' (first | exact .nil | refine .k0 ?_ | refine .k1 ?_ | refine .k2 ?_ | refine .k3 ?_ | refine .k4 ?_ | refine .k5 ?_ | refine .k6 ?_ | refine .k7 ?_ | refine .k8 ?_ | refine .k9 ?_ | (refine .cd ?_ ?_ <;> first | with_reducible exact tF | with_reducible exact fT | (intro hc; first | exact kf hc (by assumption) | exact kt hc (by assumption) | skip)) | refine .r1 ?_ ?_ | (refine .l1 ?_; intro b) | (refine .m1 ?_ ?_; intro b) | (refine .m2 ?_ ?_; intro hlen) | (refine .m3 ?_ ?_; intro hlen) | refine .t1 ?_ ?_ ?_ | refine .t2 ?_ ?_ ?_ | refine .t3 ?_ ?_ ?_ | refine .t4 ?_ ?_ ?_ | (refine .l2 ?_; intro b) | refine .u1 ?_ ?_ ?_ (fun b u c => ?_) | refine .u2 ?_ ?_ ?_ (fun b u c => ?_) | refine .an rfl (by intro hob; first | fail) ?_ ?_ | refine .t5 ?_ ?_ ?_ | refine .t6 ?_ ?_ ?_ | refine .t7 ?_ ?_ ?_ | refine .r2 ?_ ?_ | refine .r3 ?_ ?_ | refine .r4 ?_ ?_ | refine .r5 ?_ ?_ | (refine .l3 ?_; intro b) | refine .r6 ?_ ?_ | refine .r7 ?_ ?_ | refine .r8 ?_ ?_ | refine .r9 ?_ ?_ | refine .ra ?_ ?_ | (show List.all _ _ = true; rfl) | (show (_ : Nat) = _; rfl))
  try any_goals ((intro hob; first | (simp_all; done) | (simp only [BL] at *; first | (simp_all; done) | omega)))
  all_goals (try simp only [BL] at *)
  · rw [i64w (by omega)]
    (((refine Sx.Fin.intro (by repeat' first | exact .refl _ | refine .same ?_ | refine .cons ?_) (bd ?_); (try simp only [BL] at *); (try simp only [Low, Dig, Wch, and_assoc] at *))); try omega)
theorem far_ok (n : Int) : Pure Tryz.prog 105 [iv n] (.v (.bool (decide (n > 8 ∨ n < -8)))) := by
  refine Pure.runk (fun _ => 0) Tryz.func105 comp105 era105 (Nat.le_of_ble_eq_true rfl) fun σ => ?_
  repeat' (first | exact .nil | refine .k0 ?_ | refine .k1 ?_ | refine .k2 ?_ | refine .k3 ?_ | refine .k4 ?_ | refine .k5 ?_ | refine .k6 ?_ | refine .k7 ?_ | refine .k8 ?_ | refine .k9 ?_ | (refine .cd ?_ ?_ <;> first | with_reducible exact tF | with_reducible exact fT | (intro hc; first | exact kf hc (by assumption) | exact kt hc (by assumption) | skip)) | refine .r1 ?_ ?_ | (refine .l1 ?_; intro b) | (refine .m1 ?_ ?_; intro b) | (refine .m2 ?_ ?_; intro hlen) | (refine .m3 ?_ ?_; intro hlen) | refine .t1 ?_ ?_ ?_ | refine .t2 ?_ ?_ ?_ | refine .t3 ?_ ?_ ?_ | refine .t4 ?_ ?_ ?_ | (refine .l2 ?_; intro b) | refine .u1 ?_ ?_ ?_ (fun b u c => ?_) | refine .u2 ?_ ?_ ?_ (fun b u c => ?_) | refine .an rfl (by intro hob; first | fail) ?_ ?_ | refine .t5 ?_ ?_ ?_ | refine .t6 ?_ ?_ ?_ | refine .t7 ?_ ?_ ?_ | refine .r2 ?_ ?_ | refine .r3 ?_ ?_ | refine .r4 ?_ ?_ | refine .r5 ?_ ?_ | (refine .l3 ?_; intro b) | refine .r6 ?_ ?_ | refine .r7 ?_ ?_ | refine .r8 ?_ ?_ | refine .r9 ?_ ?_ | refine .ra ?_ ?_ | (show List.all _ _ = true; rfl) | (show (_ : Nat) = _; rfl))
  try any_goals ((intro hob; first | (simp_all; done) | (simp only [BL] at *; first | (simp_all; done) | omega)))
  all_goals (try simp only [BL] at *)
  · (((refine Sx.Fin.intro (by repeat' first | exact .refl _ | refine .same ?_ | refine .cons ?_) (bd ?_); (try simp only [BL] at *); (try simp only [Low, Dig, Wch, and_assoc] at *))); try omega)
theorem letter_ok (c : UInt8) : Pure Tryz.prog 111 [.v (.int .u8 c.toNat)] (.v (.bool (decide (Low c.toNat)))) := by
  refine Pure.runk (fun _ => 0) Tryz.func111 comp111 era111 (Nat.le_of_ble_eq_true rfl) fun σ => ?_
  repeat' (first | exact .nil | refine .k0 ?_ | refine .k1 ?_ | refine .k2 ?_ | refine .k3 ?_ | refine .k4 ?_ | refine .k5 ?_ | refine .k6 ?_ | refine .k7 ?_ | refine .k8 ?_ | refine .k9 ?_ | (refine .cd ?_ ?_ <;> first | with_reducible exact tF | with_reducible exact fT | (intro hc; first | exact kf hc (by assumption) | exact kt hc (by assumption) | skip)) | refine .r1 ?_ ?_ | (refine .l1 ?_; intro b) | (refine .m1 ?_ ?_; intro b) | (refine .m2 ?_ ?_; intro hlen) | (refine .m3 ?_ ?_; intro hlen) | refine .t1 ?_ ?_ ?_ | refine .t2 ?_ ?_ ?_ | refine .t3 ?_ ?_ ?_ | refine .t4 ?_ ?_ ?_ | (refine .l2 ?_; intro b) | refine .u1 ?_ ?_ ?_ (fun b u c => ?_) | refine .u2 ?_ ?_ ?_ (fun b u c => ?_) | refine .an rfl (by intro hob; first | fail) ?_ ?_ | refine .t5 ?_ ?_ ?_ | refine .t6 ?_ ?_ ?_ | refine .t7 ?_ ?_ ?_ | refine .r2 ?_ ?_ | refine .r3 ?_ ?_ | refine .r4 ?_ ?_ | refine .r5 ?_ ?_ | (refine .l3 ?_; intro b) | refine .r6 ?_ ?_ | refine .r7 ?_ ?_ | refine .r8 ?_ ?_ | refine .r9 ?_ ?_ | refine .ra ?_ ?_ | (show List.all _ _ = true; rfl) | (show (_ : Nat) = _; rfl))
  try any_goals ((intro hob; first | (simp_all; done) | (simp only [BL] at *; first | (simp_all; done) | omega)))
  all_goals (try simp only [BL] at *)
  · (((refine Sx.Fin.intro (by repeat' first | exact .refl _ | refine .same ?_ | refine .cons ?_) (bd ?_); (try simp only [BL] at *); (try simp only [Low, Dig, Wch, and_assoc] at *))); try omega)
theorem digit_ok (c : UInt8) : Pure Tryz.prog 112 [.v (.int .u8 c.toNat)] (.v (.bool (decide (Dig c.toNat)))) := by
  refine Pure.runk (fun _ => 0) Tryz.func112 comp112 era112 (Nat.le_of_ble_eq_true rfl) fun σ => ?_
  repeat' (first | exact .nil | refine .k0 ?_ | refine .k1 ?_ | refine .k2 ?_ | refine .k3 ?_ | refine .k4 ?_ | refine .k5 ?_ | refine .k6 ?_ | refine .k7 ?_ | refine .k8 ?_ | refine .k9 ?_ | (refine .cd ?_ ?_ <;> first | with_reducible exact tF | with_reducible exact fT | (intro hc; first | exact kf hc (by assumption) | exact kt hc (by assumption) | skip)) | refine .r1 ?_ ?_ | (refine .l1 ?_; intro b) | (refine .m1 ?_ ?_; intro b) | (refine .m2 ?_ ?_; intro hlen) | (refine .m3 ?_ ?_; intro hlen) | refine .t1 ?_ ?_ ?_ | refine .t2 ?_ ?_ ?_ | refine .t3 ?_ ?_ ?_ | refine .t4 ?_ ?_ ?_ | (refine .l2 ?_; intro b) | refine .u1 ?_ ?_ ?_ (fun b u c => ?_) | refine .u2 ?_ ?_ ?_ (fun b u c => ?_) | refine .an rfl (by intro hob; first | fail) ?_ ?_ | refine .t5 ?_ ?_ ?_ | refine .t6 ?_ ?_ ?_ | refine .t7 ?_ ?_ ?_ | refine .r2 ?_ ?_ | refine .r3 ?_ ?_ | refine .r4 ?_ ?_ | refine .r5 ?_ ?_ | (refine .l3 ?_; intro b) | refine .r6 ?_ ?_ | refine .r7 ?_ ?_ | refine .r8 ?_ ?_ | refine .r9 ?_ ?_ | refine .ra ?_ ?_ | (show List.all _ _ = true; rfl) | (show (_ : Nat) = _; rfl))
  try any_goals ((intro hob; first | (simp_all; done) | (simp only [BL] at *; first | (simp_all; done) | omega)))
  all_goals (try simp only [BL] at *)
  · (((refine Sx.Fin.intro (by repeat' first | exact .refl _ | refine .same ?_ | refine .cons ?_) (bd ?_); (try simp only [BL] at *); (try simp only [Low, Dig, Wch, and_assoc] at *))); try omega)

theorem word_ok (s : Str) : Pure Tryz.prog 100 [sv s] (.v (.bool (decide (Word s)))) := by
  refine Pure.runk (fun _ => 0) Tryz.func100 comp100 era100 (Nat.le_of_ble_eq_true rfl) fun σ => ?_
  repeat' (first | exact .nil | refine .k0 ?_ | refine .k1 ?_ | refine .k2 ?_ | refine .k3 ?_ | refine .k4 ?_ | refine .k5 ?_ | refine .k6 ?_ | refine .k7 ?_ | refine .k8 ?_ | refine .k9 ?_ | (refine .cd ?_ ?_ <;> first | with_reducible exact tF | with_reducible exact fT | (intro hc; first | exact kf hc (by assumption) | exact kt hc (by assumption) | skip)) | refine .r1 ?_ ?_ | (refine .l1 ?_; intro b) | (refine .m1 ?_ ?_; intro b) | (refine .m2 ?_ ?_; intro hlen) | (refine .m3 ?_ ?_; intro hlen) | refine .t1 ?_ ?_ ?_ | refine .t2 ?_ ?_ ?_ | refine .t3 ?_ ?_ ?_ | refine .t4 ?_ ?_ ?_ | (refine .l2 ?_; intro b) | refine .u1 ?_ ?_ ?_ (fun b u c => ?_) | refine .u2 ?_ ?_ ?_ (fun b u c => ?_) | refine .an rfl (by intro hob; first | fail) ?_ ?_ | refine .t5 ?_ ?_ ?_ | refine .t6 ?_ ?_ ?_ | refine .t7 ?_ ?_ ?_ | refine .r2 ?_ ?_ | refine .r3 ?_ ?_ | refine .r4 ?_ ?_ | refine .r5 ?_ ?_ | (refine .l3 ?_; intro b) | refine .r6 ?_ ?_ | refine .r7 ?_ ?_ | refine .r8 ?_ ?_ | refine .r9 ?_ ?_ | refine .ra ?_ ?_ | (show List.all _ _ = true; rfl) | (show (_ : Nat) = _; rfl))
  try any_goals ((intro hob; first | (simp_all; done) | (simp only [BL] at *; first | (simp_all; done) | omega)))
  all_goals (try simp only [BL] at *)
  · refine Sx.Fin.intro (by repeat' first | exact .refl _ | refine .same ?_ | refine .cons ?_) (bf ?_)
    rintro ⟨h1, h2, h3, h4⟩
    simp only [Low, Dig, Wch] at h3
    omega
  refine WK_loop (fun n rg σ' => ∃ i : Nat, i ≤ s.size ∧ n = s.size - i ∧ (∀ j, j < i → Wch ((byteAt s j).toNat)) ∧ σ' = σ ∧ rg = [(0, sv s), (24, iv s.size), (25, iv i)]) s.size rfl ⟨_, _, by repeat' first | exact .row | exact .refl _ | exact .nil | refine .cons ?_ ?_ | refine .tup ?_ | refine .agg ?_ | exact .sl | exact .own _ | exact .tag, by repeat' first | exact .refl _ | refine .same ?_ | refine .cons ?_, 0, Nat.zero_le _, rfl, fun j hj => absurd hj (by omega), rfl, rfl⟩ ?_
  rintro n _ _ ⟨i, hi, hn, hp, rfl, rfl⟩
  repeat' (first | exact .nil | refine .k0 ?_ | refine .k1 ?_ | refine .k2 ?_ | refine .k3 ?_ | refine .k4 ?_ | refine .k5 ?_ | refine .k6 ?_ | refine .k7 ?_ | refine .k8 ?_ | refine .k9 ?_ | (refine .cd ?_ ?_ <;> first | with_reducible exact tF | with_reducible exact fT | (intro hc; first | exact kf hc (by assumption) | exact kt hc (by assumption) | skip)) | refine .r1 ?_ ?_ | (refine .l1 ?_; intro b) | (refine .m1 ?_ ?_; intro b) | (refine .m2 ?_ ?_; intro hlen) | (refine .m3 ?_ ?_; intro hlen) | refine .t1 ?_ ?_ ?_ | refine .t2 ?_ ?_ ?_ | refine .t3 ?_ ?_ ?_ | refine .t4 ?_ ?_ ?_ | (refine .l2 ?_; intro b) | refine .u1 ?_ ?_ ?_ (fun b u c => ?_) | refine .u2 ?_ ?_ ?_ (fun b u c => ?_) | refine .an rfl (by intro hob; first | fail) ?_ ?_ | refine .t5 ?_ ?_ ?_ | refine .t6 ?_ ?_ ?_ | refine .t7 ?_ ?_ ?_ | refine .r2 ?_ ?_ | refine .r3 ?_ ?_ | refine .r4 ?_ ?_ | refine .r5 ?_ ?_ | (refine .l3 ?_; intro b) | refine .r6 ?_ ?_ | refine .r7 ?_ ?_ | refine .r8 ?_ ?_ | refine .r9 ?_ ?_ | refine .ra ?_ ?_ | (show List.all _ _ = true; rfl) | (show (_ : Nat) = _; rfl))
  try any_goals ((intro hob; first | (simp_all; done) | (simp only [BL] at *; first | (simp_all; done) | omega)))
  all_goals (try simp only [BL] at *)
  · refine Sx.Fin.intro (by repeat' first | exact .refl _ | refine .same ?_ | refine .cons ?_) (bf ?_)
    rintro ⟨h1, h2, h3, h4⟩
    have := h4 i (by omega)
    simp only [Low, Dig, Wch] at this
    omega
  · refine ⟨s.size - (i + 1), by omega, _, _, by repeat' first | exact .row | exact .refl _ | exact .nil | refine .cons ?_ ?_ | refine .tup ?_ | refine .agg ?_ | exact .sl | exact .own _ | exact .tag, by repeat' first | exact .refl _ | refine .same ?_ | refine .cons ?_, i + 1, by omega, rfl, cons_lt hp ?_, rfl, by rw [i64w (by omega)]; rfl⟩
    simp only [Low, Dig, Wch]
    omega
  · refine Sx.Fin.intro (by repeat' first | exact .refl _ | refine .same ?_ | refine .cons ?_) (bt ?_)
    refine ⟨by omega, by omega, by simp only [Low, Dig, Wch]; omega, fun j hj => hp j (by omega)⟩
theorem wordR_ok (s : Str) : Pure Tryz.prog 104 [sv s] (.v (.bool (decide (Word s)))) := by
  refine Pure.runk (fun _ => 0) Tryz.func104 comp104 era104 (Nat.le_of_ble_eq_true rfl) fun σ => ?_
  repeat' (first | exact .nil | refine .k0 ?_ | refine .k1 ?_ | refine .k2 ?_ | refine .k3 ?_ | refine .k4 ?_ | refine .k5 ?_ | refine .k6 ?_ | refine .k7 ?_ | refine .k8 ?_ | refine .k9 ?_ | (refine .cd ?_ ?_ <;> first | with_reducible exact tF | with_reducible exact fT | (intro hc; first | exact kf hc (by assumption) | exact kt hc (by assumption) | skip)) | refine .r1 ?_ ?_ | (refine .l1 ?_; intro b) | (refine .m1 ?_ ?_; intro b) | (refine .m2 ?_ ?_; intro hlen) | (refine .m3 ?_ ?_; intro hlen) | refine .t1 ?_ ?_ ?_ | refine .t2 ?_ ?_ ?_ | refine .t3 ?_ ?_ ?_ | refine .t4 ?_ ?_ ?_ | (refine .l2 ?_; intro b) | refine .u1 ?_ ?_ ?_ (fun b u c => ?_) | refine .u2 ?_ ?_ ?_ (fun b u c => ?_) | refine .an rfl (by intro hob; first | fail) ?_ ?_ | refine .t5 ?_ ?_ ?_ | refine .t6 ?_ ?_ ?_ | refine .t7 ?_ ?_ ?_ | refine .r2 ?_ ?_ | refine .r3 ?_ ?_ | refine .r4 ?_ ?_ | refine .r5 ?_ ?_ | (refine .l3 ?_; intro b) | refine .r6 ?_ ?_ | refine .r7 ?_ ?_ | refine .r8 ?_ ?_ | refine .r9 ?_ ?_ | refine .ra ?_ ?_ | (show List.all _ _ = true; rfl) | (show (_ : Nat) = _; rfl))
  try any_goals ((intro hob; first | (simp_all; done) | (simp only [BL] at *; first | (simp_all; done) | omega)))
  all_goals (try simp only [BL] at *)
  · refine Sx.Fin.intro (by repeat' first | exact .refl _ | refine .same ?_ | refine .cons ?_) (bf ?_)
    rintro ⟨h1, h2, h3, h4⟩
    simp only [Low, Dig, Wch] at h3
    omega
  refine WK_loop (fun n rg σ' => ∃ i : Nat, i ≤ s.size ∧ n = s.size - i ∧ (∀ j, j < i → Wch ((byteAt s j).toNat)) ∧ σ' = σ ∧ rg = [(0, sv s), (3, iv i)]) s.size rfl ⟨_, _, by repeat' first | exact .row | exact .refl _ | exact .nil | refine .cons ?_ ?_ | refine .tup ?_ | refine .agg ?_ | exact .sl | exact .own _ | exact .tag, by repeat' first | exact .refl _ | refine .same ?_ | refine .cons ?_, 0, Nat.zero_le _, rfl, fun j hj => absurd hj (by omega), rfl, rfl⟩ ?_
  rintro n _ _ ⟨i, hi, hn, hp, rfl, rfl⟩
  repeat' (first | exact .nil | refine .k0 ?_ | refine .k1 ?_ | refine .k2 ?_ | refine .k3 ?_ | refine .k4 ?_ | refine .k5 ?_ | refine .k6 ?_ | refine .k7 ?_ | refine .k8 ?_ | refine .k9 ?_ | (refine .cd ?_ ?_ <;> first | with_reducible exact tF | with_reducible exact fT | (intro hc; first | exact kf hc (by assumption) | exact kt hc (by assumption) | skip)) | refine .r1 ?_ ?_ | (refine .l1 ?_; intro b) | (refine .m1 ?_ ?_; intro b) | (refine .m2 ?_ ?_; intro hlen) | (refine .m3 ?_ ?_; intro hlen) | refine .t1 ?_ ?_ ?_ | refine .t2 ?_ ?_ ?_ | refine .t3 ?_ ?_ ?_ | refine .t4 ?_ ?_ ?_ | (refine .l2 ?_; intro b) | refine .u1 ?_ ?_ ?_ (fun b u c => ?_) | refine .u2 ?_ ?_ ?_ (fun b u c => ?_) | refine .an rfl (by intro hob; first | fail) ?_ ?_ | refine .t5 ?_ ?_ ?_ | refine .t6 ?_ ?_ ?_ | refine .t7 ?_ ?_ ?_ | refine .r2 ?_ ?_ | refine .r3 ?_ ?_ | refine .r4 ?_ ?_ | refine .r5 ?_ ?_ | (refine .l3 ?_; intro b) | refine .r6 ?_ ?_ | refine .r7 ?_ ?_ | refine .r8 ?_ ?_ | refine .r9 ?_ ?_ | refine .ra ?_ ?_ | (show List.all _ _ = true; rfl) | (show (_ : Nat) = _; rfl))
  try any_goals ((intro hob; first | (simp_all; done) | (simp only [BL] at *; first | (simp_all; done) | omega)))
  all_goals (try simp only [BL] at *)
  · refine Sx.Fin.intro (by repeat' first | exact .refl _ | refine .same ?_ | refine .cons ?_) (bf ?_)
    rintro ⟨h1, h2, h3, h4⟩
    have := h4 i (by omega)
    simp only [Low, Dig, Wch] at this
    omega
  · refine ⟨s.size - (i + 1), by omega, _, _, by repeat' first | exact .row | exact .refl _ | exact .nil | refine .cons ?_ ?_ | refine .tup ?_ | refine .agg ?_ | exact .sl | exact .own _ | exact .tag, by repeat' first | exact .refl _ | refine .same ?_ | refine .cons ?_, i + 1, by omega, rfl, cons_lt hp ?_, rfl, by rw [i64w (by omega)]; rfl⟩
    simp only [Low, Dig, Wch]
    omega
  · refine Sx.Fin.intro (by repeat' first | exact .refl _ | refine .same ?_ | refine .cons ?_) (bt ?_)
    refine ⟨by omega, by omega, by simp only [Low, Dig, Wch]; omega, fun j hj => hp j (by omega)⟩
end Go.Proofs.YtklncofkcfjkeaaGreatDoor

/- Keywords and names. -/
set_option linter.unusedSimpArgs false
set_option linter.unusedVariables false
set_option maxRecDepth 100000
namespace Go.Proofs.YtklncofkcfjkeaaGreatDoor
open Go.Sx Go.Proofs

def kwB : List (List UInt8) := [[116, 97, 98, 108, 101], [102, 101, 97, 116, 117, 114, 101], [111, 102], [107, 101, 101, 112], [98, 111, 111, 108], [116, 101, 120, 116], [107, 101, 121], [105, 110, 116], [100, 101, 99], [105, 102], [116, 104, 101, 110], [101, 108, 115, 101], [100, 101, 102, 97, 117, 108, 116], [111, 114], [97, 110, 100], [110, 111, 116], [116, 114, 117, 101], [102, 97, 108, 115, 101], [110, 117, 108, 108],
  [99, 111, 117, 110, 116], [115, 117, 109], [109, 101, 97, 110], [109, 105, 110], [109, 97, 120], [102, 105, 114, 115, 116], [108, 97, 115, 116], [100, 105, 115, 116, 105, 110, 99, 116], [113, 117, 97, 110, 116, 105, 108, 101], [100, 101, 99, 97, 121], [97, 108, 108], [115, 108, 105, 100, 105, 110, 103], [116, 117, 109, 98, 108, 105, 110, 103], [115, 101, 115, 115, 105, 111, 110], [119, 104, 101, 114, 101]]
def KW (s : Str) : Prop := s.data.toList ∈ kwB
instance (s : Str) : Decidable (KW s) := inferInstanceAs (Decidable (_ ∈ _))
def Name (s : Str) : Prop := Word s ∧ ¬ KW s
instance (s : Str) : Decidable (Name s) := inferInstanceAs (Decidable (_ ∧ _))

/-- Words, with blanks between them. -/
def spaced : List (List UInt8) → List UInt8
  | [] => [32]
  | w :: ws => 32 :: w ++ spaced ws

theorem infix_spaced (s : List UInt8) (hs : (32 : UInt8) ∉ s) (hs0 : s ≠ []) : ∀ (ws : List (List UInt8)), (∀ w ∈ ws, (32 : UInt8) ∉ w) → ((32 :: s ++ [32]) <:+: spaced ws ↔ s ∈ ws)
  | [], _ => by
    simp only [spaced, List.not_mem_nil, iff_false]
    intro h
    have := h.length_le
    simp at this
  | w :: ws, hw => by
    have ih := infix_spaced s hs hs0 ws (fun x hx => hw x (by simp [hx]))
    have hw0 := hw w (by simp)
    have hsp : ∃ t, spaced ws = 32 :: t := by cases ws <;> exact ⟨_, rfl⟩
    obtain ⟨t, ht⟩ := hsp
    rw [List.mem_cons, ← ih]
    simp only [spaced, List.cons_append]
    rw [List.infix_cons_iff]
    constructor
    · rintro (h | h)
      · left
        rw [List.cons_prefix_cons] at h
        have h := h.2
        rw [ht] at h
        -- s ++ [32] is a beginning of w ++ 32 :: t
        have key : ∀ (s w t : List UInt8), (32 : UInt8) ∉ s → (32 : UInt8) ∉ w → s ++ [32] <+: w ++ 32 :: t → s = w := by
          intro s
          induction s with
          | nil =>
            intro w t _ hw h
            cases w with
            | nil => rfl
            | cons a w =>
              simp only [List.nil_append, List.cons_append, List.cons_prefix_cons] at h
              exact absurd (by rw [h.1]; simp) hw
          | cons a s ih =>
            intro w t hs hw h
            cases w with
            | nil =>
              simp only [List.nil_append, List.cons_append, List.cons_prefix_cons] at h
              exact absurd (by rw [h.1]; simp) hs
            | cons b w =>
              simp only [List.cons_append, List.cons_prefix_cons] at h
              rw [h.1, ih w t (fun x => hs (by simp [x])) (fun x => hw (by simp [x])) h.2]
        exact key s w t hs hw0 h
      · right
        have key : ∀ (w : List UInt8), (32 : UInt8) ∉ w → (32 :: s ++ [32]) <:+: w ++ spaced ws → (32 :: s ++ [32]) <:+: spaced ws := by
          intro w
          induction w with
          | nil => intro _ h; exact h
          | cons a w ih2 =>
            intro hw h
            simp only [List.cons_append] at h
            rw [List.infix_cons_iff] at h
            rcases h with h | h
            · rw [List.cons_prefix_cons] at h
              exact absurd (by rw [h.1]; simp) hw
            · exact ih2 (fun x => hw (by simp [x])) h
        exact key w hw0 h
    · rintro (rfl | h)
      · left
        rw [List.cons_prefix_cons]
        refine ⟨rfl, ?_⟩
        rw [ht]
        exact ⟨t, by simp⟩
      · right
        exact h.trans (List.suffix_append _ _).isInfix

theorem index_infix (t : List UInt8) : ∀ s : List UInt8, 0 ≤ Lib.index s t ↔ t <:+: s
  | [] => by
    unfold Lib.index
    cases t with
    | nil => simp
    | cons a t => simp
  | b :: s => by
    have ih := index_infix t s
    rw [List.infix_cons_iff, ← ih]
    have hg := Lib.index_ge s t
    have e0 : Lib.index (b :: s) t = if t.isPrefixOf (b :: s) then 0 else if Lib.index s t == -1 then -1 else Lib.index s t + 1 := rfl
    rw [e0]
    cases h : t.isPrefixOf (b :: s) with
    | true => simp only [if_true]; exact ⟨fun _ => .inl (List.isPrefixOf_iff_prefix.1 h), fun _ => by decide⟩
    | false =>
      have hn : ¬ t <+: b :: s := fun hp => by rw [List.isPrefixOf_iff_prefix.2 hp] at h; cases h
      simp only [Bool.false_eq_true, if_false]
      split
      · rename_i e
        have e : Lib.index s t = -1 := by simpa using e
        simp only [e]
        exact ⟨fun h => absurd h (by decide), fun h => h.elim (fun h => absurd h hn) (fun h => absurd h (by decide))⟩
      · rename_i e
        have e : Lib.index s t ≠ -1 := by simpa using e
        exact ⟨fun _ => .inr (by omega), fun _ => by omega⟩

theorem indexByte_mem (c : UInt8) : ∀ s : List UInt8, 0 ≤ Lib.indexByte s c ↔ c ∈ s
  | [] => by simp [Lib.indexByte]
  | b :: s => by
    have ih := indexByte_mem c s
    have hg := Lib.indexByte_ge s c
    rw [List.mem_cons, ← ih]
    have e0 : Lib.indexByte (b :: s) c = if b == c then 0 else if Lib.indexByte s c == -1 then -1 else Lib.indexByte s c + 1 := rfl
    rw [e0]
    by_cases h : b = c
    · subst h; simp
    · have h' : (b == c) = false := by simpa using h
      rw [h']
      simp only [Bool.false_eq_true, if_false]
      split
      · rename_i e
        have e : Lib.indexByte s c = -1 := by simpa using e
        simp only [e]
        exact ⟨fun h => absurd h (by decide), fun hh => hh.elim (fun e => absurd e.symm h) (fun h => absurd h (by decide))⟩
      · rename_i e
        have e : Lib.indexByte s c ≠ -1 := by simpa using e
        exact ⟨fun _ => .inr (by omega), fun _ => by omega⟩

theorem kw_spaced (s : Str) (h0 : s.data.toList ≠ []) (hs : (32 : UInt8) ∉ s.data.toList) : Lib.contains (spaced kwB) (32 :: s.data.toList ++ [32]) = decide (KW s) := by
  have h := infix_spaced s.data.toList hs h0 kwB (by decide)
  rw [Bool.eq_iff_iff, decide_eq_true_iff]
  unfold Lib.contains
  rw [decide_eq_true_iff, index_infix]
  exact h
theorem kw_blank {s : Str} (h : (32 : UInt8) ∈ s.data.toList) : ¬ KW s := fun hk => by
  have : ∀ w ∈ kwB, (32 : UInt8) ∉ w := by decide
  exact this _ hk h
theorem kw_empty {s : Str} (h : s.data.toList = []) : ¬ KW s := fun hk => by
  have : ∀ w ∈ kwB, w ≠ [] := by decide
  exact this _ hk h
theorem str_ext {a b : Str} (h : a.data.toList = b.data.toList) : a = b := by
  cases a; cases b; congr 1; exact Array.ext' h
theorem str_nil {s : Str} : s = ⟨#[]⟩ ↔ s.data.toList = [] := ⟨fun h => by rw [h], fun h => str_ext h⟩
theorem str_app (a b : Str) : (a ++ b).data.toList = a.data.toList ++ b.data.toList := by simp
theorem str_size (a : Str) : a.size = a.data.toList.length := rfl

theorem keyword_ok (s : Str) (hs : s.size ≤ 1000) : Pure Tryz.prog 82 [sv s] (.v (.bool (decide (KW s)))) := by
  refine Pure.runk (fun _ => 0) Tryz.func82 comp82 era82 (Nat.le_of_ble_eq_true rfl) fun σ => ?_
  repeat' (first | exact .nil | refine .k0 ?_ | refine .k1 ?_ | refine .k2 ?_ | refine .k3 ?_ | refine .k4 ?_ | refine .k5 ?_ | refine .k6 ?_ | refine .k7 ?_ | refine .k8 ?_ | refine .k9 ?_ | (refine .cd ?_ ?_ <;> first | with_reducible exact tF | with_reducible exact fT | (intro hc; first | exact kf hc (by assumption) | exact kt hc (by assumption) | skip)) | refine .r1 ?_ ?_ | (refine .l1 ?_; intro b) | (refine .m1 ?_ ?_; intro b) | (refine .m2 ?_ ?_; intro hlen) | (refine .m3 ?_ ?_; intro hlen) | refine .t1 ?_ ?_ ?_ | refine .t2 ?_ ?_ ?_ | refine .t3 ?_ ?_ ?_ | refine .t4 ?_ ?_ ?_ | (refine .l2 ?_; intro b) | refine .u1 ?_ ?_ ?_ (fun b u c => ?_) | refine .u2 ?_ ?_ ?_ (fun b u c => ?_) | refine .an rfl (by intro hob; first | exact contains_one_ok _ _ | exact contains_ok _ _ (by decide)) ?_ ?_ | refine .t5 ?_ ?_ ?_ | refine .t6 ?_ ?_ ?_ | refine .t7 ?_ ?_ ?_ | refine .r2 ?_ ?_ | refine .r3 ?_ ?_ | refine .r4 ?_ ?_ | refine .r5 ?_ ?_ | (refine .l3 ?_; intro b) | refine .r6 ?_ ?_ | refine .r7 ?_ ?_ | refine .r8 ?_ ?_ | refine .r9 ?_ ?_ | refine .ra ?_ ?_ | (show List.all _ _ = true; rfl) | (show (_ : Nat) = _; rfl))
  try any_goals ((intro hob; first | (simp_all; done) | (simp only [BL] at *; first | (simp_all; done) | omega)))
  all_goals (try simp only [BL] at *)
  · intro _
    simp only [ByteArray.size_append]
    have h1 : (⟨#[32]⟩ : Str).size = 1 := rfl
    omega
  · intro _
    have h1 : (⟨#[32]⟩ : Str).size = 1 := rfl
    omega
  refine Sx.Fin.intro (by repeat' first | exact .refl _ | refine .same ?_ | refine .cons ?_) ?_
  congr 2
  have e1 : (⟨#[32]⟩ ++ s ++ ⟨#[32]⟩ : Str).data.toList = 32 :: s.data.toList ++ [32] := by simp [str_app]
  rw [e1]
  have e2 : Lib.contains (spaced kwB) (32 :: s.data.toList ++ [32]) = Lib.contains _ (32 :: s.data.toList ++ [32]) := rfl
  by_cases h0 : s.data.toList = []
  · rw [decide_eq_false (kw_empty h0), decide_eq_true (str_nil.2 h0)]; rfl
  · by_cases h1 : (32 : UInt8) ∈ s.data.toList
    · rw [decide_eq_false (kw_blank h1), decide_eq_true ((indexByte_mem _ _).2 h1)]; simp
    · rw [← kw_spaced s h0 h1, decide_eq_false (fun h => h0 (str_nil.1 h)), decide_eq_false (fun h => h1 ((indexByte_mem _ _).1 h))]
      simp only [Bool.not_false, Bool.true_and]
      rfl
set_option maxHeartbeats 4000000 in
theorem keywordR_ok (s : Str) : Pure Tryz.prog 84 [sv s] (.v (.bool (decide (KW s)))) := by
  refine Pure.runk (fun _ => 0) Tryz.func84 comp84 era84 (Nat.le_of_ble_eq_true rfl) fun σ => ?_
  repeat' (first | exact .nil | refine .k0 ?_ | refine .k1 ?_ | refine .k2 ?_ | refine .k3 ?_ | refine .k4 ?_ | refine .k5 ?_ | refine .k6 ?_ | refine .k7 ?_ | refine .k8 ?_ | refine .k9 ?_ | (refine .cd ?_ ?_ <;> first | with_reducible exact tF | with_reducible exact fT | (intro hc; first | exact kf hc (by assumption) | exact kt hc (by assumption) | skip)) | refine .r1 ?_ ?_ | (refine .l1 ?_; intro b) | (refine .m1 ?_ ?_; intro b) | (refine .m2 ?_ ?_; intro hlen) | (refine .m3 ?_ ?_; intro hlen) | refine .t1 ?_ ?_ ?_ | refine .t2 ?_ ?_ ?_ | refine .t3 ?_ ?_ ?_ | refine .t4 ?_ ?_ ?_ | (refine .l2 ?_; intro b) | refine .u1 ?_ ?_ ?_ (fun b u c => ?_) | refine .u2 ?_ ?_ ?_ (fun b u c => ?_) | refine .an rfl (by intro hob; first | exact contains_one_ok _ _ | exact contains_ok _ _ (by decide)) ?_ ?_ | refine .t5 ?_ ?_ ?_ | refine .t6 ?_ ?_ ?_ | refine .t7 ?_ ?_ ?_ | refine .r2 ?_ ?_ | refine .r3 ?_ ?_ | refine .r4 ?_ ?_ | refine .r5 ?_ ?_ | (refine .l3 ?_; intro b) | refine .r6 ?_ ?_ | refine .r7 ?_ ?_ | refine .r8 ?_ ?_ | refine .r9 ?_ ?_ | refine .ra ?_ ?_ | (show List.all _ _ = true; rfl) | (show (_ : Nat) = _; rfl))
  try any_goals ((intro hob; first | (simp_all; done) | (simp only [BL] at *; first | (simp_all; done) | omega)))
  all_goals (try simp only [BL] at *)
  all_goals first
    | (refine Sx.Fin.intro (by repeat' first | exact .refl _ | refine .same ?_ | refine .cons ?_) (bt ?_)
       subst hc
       decide)
    | (refine Sx.Fin.intro (by repeat' first | exact .refl _ | refine .same ?_ | refine .cons ?_) (bf ?_)
       intro hk
       have hall : ∀ w ∈ kwB, s ≠ ⟨w.toArray⟩ := by
         simp only [kwB, List.forall_mem_cons]
         repeat' (first | assumption | (intro _ h; cases h; done) | refine ⟨?_, ?_⟩)
       exact hall _ hk (str_ext (by simp)))

theorem size_zero {s : Str} : s.size = 0 ↔ s = ⟨#[]⟩ := by
  rw [str_nil, str_size]; exact List.length_eq_zero_iff
theorem low_wch {c : Nat} (h : Low c) : Wch c := .inl h
theorem byteAt_row (s : Str) (i : Nat) : (s.data.toList.map byteRow).getD i [] = if i < s.size then byteRow (byteAt s i) else [] := by
  simp only [byteAt, List.getD_eq_getElem?_getD, List.getElem?_map]
  by_cases h : i < s.size
  · have h' : i < s.data.toList.length := h
    rw [List.getElem?_eq_getElem h', if_pos h]; rfl
  · have h' : ¬ i < s.data.toList.length := h
    rw [List.getElem?_eq_none (by omega), if_neg h]; rfl

theorem name_le (s : Str) (h24 : s.size ≤ 24) : Pure Tryz.prog 47 [sv s] (.v (.bool (decide (Name s)))) := by
  refine Pure.runk (fun _ => 0) Tryz.func47 comp47 era47 (Nat.le_of_ble_eq_true rfl) fun σ => ?_
  repeat' (first | exact .nil | refine .k0 ?_ | refine .k1 ?_ | refine .k2 ?_ | refine .k3 ?_ | refine .k4 ?_ | refine .k5 ?_ | refine .k6 ?_ | refine .k7 ?_ | refine .k8 ?_ | refine .k9 ?_ | (refine .cd ?_ ?_ <;> first | with_reducible exact tF | with_reducible exact fT | (intro hc; first | exact kf hc (by assumption) | exact kt hc (by assumption) | skip)) | refine .r1 ?_ ?_ | (refine .l1 ?_; intro b) | (refine .m1 ?_ ?_; intro b) | (refine .m2 ?_ ?_; intro hlen) | (refine .m3 ?_ ?_; intro hlen) | refine .t1 ?_ ?_ ?_ | refine .t2 ?_ ?_ ?_ | refine .t3 ?_ ?_ ?_ | refine .t4 ?_ ?_ ?_ | (refine .l2 ?_; intro b) | refine .u1 ?_ ?_ ?_ (fun b u c => ?_) | refine .u2 ?_ ?_ ?_ (fun b u c => ?_) | refine .an rfl (by intro hob; first | exact keyword_ok _ (by first | omega | (simp only [BL] at *; omega)) | exact keywordR_ok _ | exact letter_ok _ | exact digit_ok _) ?_ ?_ | refine .t5 ?_ ?_ ?_ | refine .t6 ?_ ?_ ?_ | refine .t7 ?_ ?_ ?_ | refine .r2 ?_ ?_ | refine .r3 ?_ ?_ | refine .r4 ?_ ?_ | refine .r5 ?_ ?_ | (refine .l3 ?_; intro b) | refine .r6 ?_ ?_ | refine .r7 ?_ ?_ | refine .r8 ?_ ?_ | refine .r9 ?_ ?_ | refine .ra ?_ ?_ | (show List.all _ _ = true; rfl) | (show (_ : Nat) = _; rfl))
  try any_goals ((intro hob; first | (simp_all; done) | (simp only [BL] at *; first | (simp_all; done) | omega)))
  all_goals (try simp only [BL] at *)
  · refine Sx.Fin.intro (by repeat' first | exact .refl _ | refine .same ?_ | refine .cons ?_) (bf ?_)
    rintro ⟨⟨h1, _⟩, h2⟩
    rcases hc with (hc | hc) | hc
    · have := size_zero.2 hc; omega
    · omega
    · exact h2 hc
  have hne : s.size ≠ 0 := fun h => hc.1.1 (size_zero.1 h)
  refine WK_loop (fun n rg σ' => ∃ i : Nat, i ≤ s.size ∧ n = s.size - i ∧ (0 < i → Low (byteAt s 0).toNat) ∧ (∀ j, j < i → Wch (byteAt s j).toNat) ∧ σ' = σ ∧ rg = [(0, sv s), (17, iv s.size), (18, iv i)]) s.size rfl ⟨_, _, by repeat' first | exact .row | exact .refl _ | exact .nil | refine .cons ?_ ?_ | refine .tup ?_ | refine .agg ?_ | exact .sl | exact .own _ | exact .tag, by repeat' first | exact .refl _ | refine .same ?_ | refine .cons ?_, 0, Nat.zero_le _, rfl, fun h => absurd h (by omega), fun j hj => absurd hj (by omega), rfl, rfl⟩ ?_
  rintro n _ _ ⟨i, hi, hn, hp0, hp, rfl, rfl⟩
  repeat' (first | exact .nil | refine .k0 ?_ | refine .k1 ?_ | refine .k2 ?_ | refine .k3 ?_ | refine .k4 ?_ | refine .k5 ?_ | refine .k6 ?_ | refine .k7 ?_ | refine .k8 ?_ | refine .k9 ?_ | (refine .cd ?_ ?_ <;> first | with_reducible exact tF | with_reducible exact fT | (intro hc; first | exact kf hc (by assumption) | exact kt hc (by assumption) | skip)) | refine .r1 ?_ ?_ | (refine .l1 ?_; intro b) | (refine .m1 ?_ ?_; intro b) | (refine .m2 ?_ ?_; intro hlen) | (refine .m3 ?_ ?_; intro hlen) | refine .t1 ?_ ?_ ?_ | refine .t2 ?_ ?_ ?_ | refine .t3 ?_ ?_ ?_ | refine .t4 ?_ ?_ ?_ | (refine .l2 ?_; intro b) | refine .u1 ?_ ?_ ?_ (fun b u c => ?_) | refine .u2 ?_ ?_ ?_ (fun b u c => ?_) | refine .an rfl (by intro hob; first | exact keyword_ok _ (by first | omega | (simp only [BL] at *; omega)) | exact keywordR_ok _ | exact letter_ok _ | exact digit_ok _) ?_ ?_ | refine .t5 ?_ ?_ ?_ | refine .t6 ?_ ?_ ?_ | refine .t7 ?_ ?_ ?_ | refine .r2 ?_ ?_ | refine .r3 ?_ ?_ | refine .r4 ?_ ?_ | refine .r5 ?_ ?_ | (refine .l3 ?_; intro b) | refine .r6 ?_ ?_ | refine .r7 ?_ ?_ | refine .r8 ?_ ?_ | refine .r9 ?_ ?_ | refine .ra ?_ ?_ | (show List.all _ _ = true; rfl) | (show (_ : Nat) = _; rfl))
  try any_goals ((intro hob; first | (simp_all; done) | (simp only [BL] at *; first | (simp_all; done) | omega)))
  all_goals (try simp only [BL] at *)
  · refine ⟨s.size - (i + 1), by omega, _, _, by repeat' first | exact .row | exact .refl _ | exact .nil | refine .cons ?_ ?_ | refine .tup ?_ | refine .agg ?_ | exact .sl | exact .own _ | exact .tag, by repeat' first | exact .refl _ | refine .same ?_ | refine .cons ?_, i + 1, by omega, rfl, fun _ => ?_, cons_lt hp (.inl (by simp only [Low]; omega)), rfl, by rw [i64w (by omega)]; rfl⟩
    by_cases h0 : i = 0
    · subst h0; simp only [Low]; omega
    · exact hp0 (by omega)
  · refine ⟨s.size - (i + 1), by omega, _, _, by repeat' first | exact .row | exact .refl _ | exact .nil | refine .cons ?_ ?_ | refine .tup ?_ | refine .agg ?_ | exact .sl | exact .own _ | exact .tag, by repeat' first | exact .refl _ | refine .same ?_ | refine .cons ?_, i + 1, by omega, rfl, fun _ => hp0 (by omega), cons_lt hp ?_, rfl, by rw [i64w (by omega)]; rfl⟩
    simp only [Low, Dig, Wch]; omega
  · refine Sx.Fin.intro (by repeat' first | exact .refl _ | refine .same ?_ | refine .cons ?_) (bf ?_)
    rintro ⟨⟨_, _, h0, h1⟩, _⟩
    have h2 := h1 i (by omega)
    by_cases h3 : i = 0
    · subst h3; simp only [Low, Dig, Wch] at *; omega
    · simp only [Low, Dig, Wch] at *; omega
  · refine Sx.Fin.intro (by repeat' first | exact .refl _ | refine .same ?_ | refine .cons ?_) (bt ?_)
    exact ⟨⟨by omega, h24, hp0 (by omega), fun j hj => hp j (by omega)⟩, by rename_i h1 _; exact h1.2⟩
theorem name_gt (s : Str) (h24 : ¬ s.size ≤ 24) : Pure Tryz.prog 47 [sv s] (.v (.bool (decide (Name s)))) := by
  refine Pure.runk (fun _ => 0) Tryz.func47 comp47 era47 (Nat.le_of_ble_eq_true rfl) fun σ => ?_
  repeat' (first | exact .nil | refine .k0 ?_ | refine .k1 ?_ | refine .k2 ?_ | refine .k3 ?_ | refine .k4 ?_ | refine .k5 ?_ | refine .k6 ?_ | refine .k7 ?_ | refine .k8 ?_ | refine .k9 ?_ | (refine .cd ?_ ?_ <;> first | with_reducible exact tF | with_reducible exact fT | (intro hc; first | exact kf hc (by assumption) | exact kt hc (by assumption) | skip)) | refine .r1 ?_ ?_ | (refine .l1 ?_; intro b) | (refine .m1 ?_ ?_; intro b) | (refine .m2 ?_ ?_; intro hlen) | (refine .m3 ?_ ?_; intro hlen) | refine .t1 ?_ ?_ ?_ | refine .t2 ?_ ?_ ?_ | refine .t3 ?_ ?_ ?_ | refine .t4 ?_ ?_ ?_ | (refine .l2 ?_; intro b) | refine .u1 ?_ ?_ ?_ (fun b u c => ?_) | refine .u2 ?_ ?_ ?_ (fun b u c => ?_) | refine .an rfl (by intro hob; first | exact keyword_ok _ (by first | omega | (simp only [BL] at *; omega)) | exact keywordR_ok _ | exact letter_ok _ | exact digit_ok _) ?_ ?_ | refine .t5 ?_ ?_ ?_ | refine .t6 ?_ ?_ ?_ | refine .t7 ?_ ?_ ?_ | refine .r2 ?_ ?_ | refine .r3 ?_ ?_ | refine .r4 ?_ ?_ | refine .r5 ?_ ?_ | (refine .l3 ?_; intro b) | refine .r6 ?_ ?_ | refine .r7 ?_ ?_ | refine .r8 ?_ ?_ | refine .r9 ?_ ?_ | refine .ra ?_ ?_ | (show List.all _ _ = true; rfl) | (show (_ : Nat) = _; rfl))
  try any_goals ((intro hob; first | (simp_all; done) | (simp only [BL] at *; first | (simp_all; done) | omega)))
  all_goals (try simp only [BL] at *)
  · refine Sx.Fin.intro (by repeat' first | exact .refl _ | refine .same ?_ | refine .cons ?_) (bf ?_)
    rintro ⟨⟨_, h2, _⟩, _⟩
    omega
  · exfalso
    omega
theorem name_ok (s : Str) : Pure Tryz.prog 47 [sv s] (.v (.bool (decide (Name s)))) := by
  by_cases h : s.size ≤ 24
  · exact name_le s h
  · exact name_gt s h

/-- How long a word begins at a place. -/
def wordLen (l : List UInt8) (at_ : Nat) : Nat := match l.drop at_ with
  | [] => 0
  | c :: t => if Low c.toNat then 1 + (t.takeWhile fun c => decide (Wch c.toNat)).length else 0
theorem takeWhile_len {α : Type} [Inhabited α] (p : α → Bool) : ∀ (t : List α) (n : Nat), n ≤ t.length → (∀ j, j < n → p (t.getD j default) = true) → (n = t.length ∨ p (t.getD n default) = false) → (t.takeWhile p).length = n
  | [], n, h, _, _ => by simp at h; simp [h]
  | c :: t, 0, _, _, h => by
    rcases h with h | h
    · simp at h
    · have h : p c = false := by simpa using h
      rw [List.takeWhile_cons, h]; rfl
  | c :: t, n + 1, h, ha, he => by
    have h0 : p c = true := by simpa using ha 0 (by omega)
    rw [List.takeWhile_cons, h0]
    simp only [if_true, List.length_cons]
    rw [takeWhile_len p t n (by simpa using h) (fun j hj => by simpa using ha (j + 1) (by omega)) (by simpa using he)]
theorem wordLen_0 {l : List UInt8} {k : Nat} (hk : k < l.length) (h : ¬ Low (l.getD k default).toNat) : wordLen l k = 0 := by
  unfold wordLen
  rw [drop_get hk]
  simp only [if_neg h]
theorem wordLen_n {l : List UInt8} {k n : Nat} (hk : k < l.length) (h : Low (l.getD k default).toNat) (hn : 1 ≤ n) (hle : k + n ≤ l.length) (ha : ∀ j, 1 ≤ j → j < n → Wch (l.getD (k + j) default).toNat) (he : k + n = l.length ∨ ¬ Wch (l.getD (k + n) default).toNat) : wordLen l k = n := by
  unfold wordLen
  rw [drop_get hk]
  simp only [if_pos h]
  have e : ∀ j, (l.drop (k + 1)).getD j default = l.getD (k + (j + 1)) default := fun j => by simp only [List.getD_eq_getElem?_getD, List.getElem?_drop]; congr 2; omega
  rw [takeWhile_len _ _ (n - 1) (by simp; omega) (fun j hj => by rw [e]; exact decide_eq_true (ha (j + 1) (by omega) (by omega)))]
  · omega
  · rw [e, show n - 1 + 1 = n from by omega]
    rcases he with he | he
    · left; simp; omega
    · right; exact decide_eq_false he

theorem word83_ok (l : List UInt8) (k : Nat) (nn : Bool) (hk : k < l.length) (hl : l.length ≤ 9000000000000000000) : Pure Tryz.prog 83 [.sl nn 1 (l.map byteRow), iv k] (iv (wordLen l k)) := by
  refine Pure.runk (fun _ => 0) Tryz.func83 comp83 era83 (Nat.le_of_ble_eq_true rfl) fun σ => ?_
  repeat' (first | exact .nil | refine .k0 ?_ | refine .k1 ?_ | refine .k2 ?_ | refine .k3 ?_ | refine .k4 ?_ | refine .k5 ?_ | refine .k6 ?_ | refine .k7 ?_ | refine .k8 ?_ | refine .k9 ?_ | (refine .cd ?_ ?_ <;> first | with_reducible exact tF | with_reducible exact fT | (intro hc; first | exact kf hc (by assumption) | exact kt hc (by assumption) | skip)) | refine .r1 ?_ ?_ | (refine .l1 ?_; intro b) | (refine .m1 ?_ ?_; intro b) | (refine .m2 ?_ ?_; intro hlen) | (refine .m3 ?_ ?_; intro hlen) | refine .t1 ?_ ?_ ?_ | refine .t2 ?_ ?_ ?_ | refine .t3 ?_ ?_ ?_ | refine .t4 ?_ ?_ ?_ | (refine .l2 ?_; intro b) | refine .u1 ?_ ?_ ?_ (fun b u c => ?_) | refine .u2 ?_ ?_ ?_ (fun b u c => ?_) | refine .an rfl (by intro hob; first | exact keyword_ok _ (by first | omega | (simp only [BL] at *; omega)) | exact keywordR_ok _ | exact letter_ok _ | exact digit_ok _) ?_ ?_ | refine .t5 ?_ ?_ ?_ | refine .t6 ?_ ?_ ?_ | refine .t7 ?_ ?_ ?_ | refine .r2 ?_ ?_ | refine .r3 ?_ ?_ | refine .r4 ?_ ?_ | refine .r5 ?_ ?_ | (refine .l3 ?_; intro b) | refine .r6 ?_ ?_ | refine .r7 ?_ ?_ | refine .r8 ?_ ?_ | refine .r9 ?_ ?_ | refine .ra ?_ ?_ | (show List.all _ _ = true; rfl) | (show (_ : Nat) = _; rfl))
  try any_goals ((intro hob; first | (simp_all; done) | (simp only [BL] at *; first | (simp_all; done) | omega)))
  all_goals (try simp only [BL] at *)
  · rw [wordLen_0 hk hc]; (refine Sx.Fin.wk (by repeat' first | exact .refl _ | refine .same ?_ | refine .cons ?_) ?_; repeat' first | exact .refl _ | exact .nil | refine .cons ?_ ?_ | refine .tup ?_ | refine .agg ?_ | exact .sl | exact .own _)
  refine WK_loop (fun n rg σ' => ∃ i : Nat, 1 ≤ i ∧ k + i ≤ l.length ∧ n = l.length - i ∧ (∀ j, 1 ≤ j → j < i → Wch (l.getD (k + j) default).toNat) ∧ σ' = σ ∧ rg = [(0, .sl nn 1 (l.map byteRow)), (1, iv k), (5, iv i)]) (l.length - 1) rfl ⟨_, _, by repeat' first | exact .row | exact .refl _ | exact .nil | refine .cons ?_ ?_ | refine .tup ?_ | refine .agg ?_ | exact .sl | exact .own _ | exact .tag, by repeat' first | exact .refl _ | refine .same ?_ | refine .cons ?_, 1, Nat.le_refl _, by omega, rfl, fun j h1 h2 => absurd h2 (by omega), rfl, rfl⟩ ?_
  rintro n _ _ ⟨i, hi, hle, hn, hp, rfl, rfl⟩
  repeat' (first | exact .nil | refine .k0 ?_ | refine .k1 ?_ | refine .k2 ?_ | refine .k3 ?_ | refine .k4 ?_ | refine .k5 ?_ | refine .k6 ?_ | refine .k7 ?_ | refine .k8 ?_ | refine .k9 ?_ | (refine .cd ?_ ?_ <;> first | with_reducible exact tF | with_reducible exact fT | (intro hc; first | exact kf hc (by assumption) | exact kt hc (by assumption) | skip)) | refine .r1 ?_ ?_ | (refine .l1 ?_; intro b) | (refine .m1 ?_ ?_; intro b) | (refine .m2 ?_ ?_; intro hlen) | (refine .m3 ?_ ?_; intro hlen) | refine .t1 ?_ ?_ ?_ | refine .t2 ?_ ?_ ?_ | refine .t3 ?_ ?_ ?_ | refine .t4 ?_ ?_ ?_ | (refine .l2 ?_; intro b) | refine .u1 ?_ ?_ ?_ (fun b u c => ?_) | refine .u2 ?_ ?_ ?_ (fun b u c => ?_) | refine .an rfl (by intro hob; first | exact keyword_ok _ (by first | omega | (simp only [BL] at *; omega)) | exact keywordR_ok _ | exact letter_ok _ | exact digit_ok _) ?_ ?_ | refine .t5 ?_ ?_ ?_ | refine .t6 ?_ ?_ ?_ | refine .t7 ?_ ?_ ?_ | refine .r2 ?_ ?_ | refine .r3 ?_ ?_ | refine .r4 ?_ ?_ | refine .r5 ?_ ?_ | (refine .l3 ?_; intro b) | refine .r6 ?_ ?_ | refine .r7 ?_ ?_ | refine .r8 ?_ ?_ | refine .r9 ?_ ?_ | refine .ra ?_ ?_ | (show List.all _ _ = true; rfl) | (show (_ : Nat) = _; rfl))
  try any_goals ((intro hob; first | (simp_all; done) | (simp only [BL] at *; first | (simp_all; done) | omega)))
  all_goals (try simp only [BL] at *)
  all_goals (have hw : IntKind.i64.wrap ((k : Int) + i) = ((k + i : Nat) : Int) := by rw [i64w (by omega)]; omega)
  all_goals (simp only [hw, Int.toNat_natCast] at *)
  · refine ⟨l.length - (i + 1), by omega, _, _, by repeat' first | exact .row | exact .refl _ | exact .nil | refine .cons ?_ ?_ | refine .tup ?_ | refine .agg ?_ | exact .sl | exact .own _ | exact .tag, by repeat' first | exact .refl _ | refine .same ?_ | refine .cons ?_, i + 1, by omega, by omega, rfl, fun j h1 h2 => ?_, rfl, by rw [i64w (by omega)]; rfl⟩
    by_cases h : j < i
    · exact hp j h1 h
    · obtain rfl : j = i := by omega
      rcases hc.2 with (h3 | h3) | h3
      · exact .inl h3
      · exact .inr (.inl h3)
      · exact .inr (.inr (by omega))
  · have h0 : Low (l.getD k default).toNat := by assumption
    rw [wordLen_n hk h0 hi hle hp (by
      rcases hc with h1 | h1
      · left; omega
      · right
        rintro (h3 | h3 | h3)
        · exact h1.1.1 h3
        · exact h1.1.2 h3
        · exact h1.2 (by omega))]
    (refine Sx.Fin.wk (by repeat' first | exact .refl _ | refine .same ?_ | refine .cons ?_) ?_; repeat' first | exact .refl _ | exact .nil | refine .cons ?_ ?_ | refine .tup ?_ | refine .agg ?_ | exact .sl | exact .own _)
  all_goals (intro h1; omega)

/-- A word from its bytes. -/
theorem wordLen_size {s : Str} (h1 : 1 ≤ s.size) : (wordLen s.data.toList 0 = s.size) ↔ (Low (byteAt s 0).toNat ∧ ∀ i, i < s.size → Wch (byteAt s i).toNat) := by
  have hl : s.data.toList.length = s.size := rfl
  have hb : ∀ i, s.data.toList.getD i default = byteAt s i := fun i => rfl
  constructor
  · intro h
    have h0 : Low (byteAt s 0).toNat := by
      by_cases h2 : Low (byteAt s 0).toNat
      · exact h2
      · rw [wordLen_0 (by omega) (by rw [hb]; exact h2)] at h; omega
    refine ⟨h0, fun i hi => ?_⟩
    by_cases hi0 : i = 0
    · subst hi0; exact .inl h0
    · unfold wordLen at h
      rw [drop_get (by omega : 0 < s.data.toList.length), hb] at h
      simp only [Nat.zero_add, if_pos h0] at h
      have hlen : (s.data.toList.drop 1).length = s.size - 1 := by rw [List.length_drop, hl]
      have hpre := List.takeWhile_prefix (p := fun c : UInt8 => decide (Wch c.toNat)) (l := s.data.toList.drop 1)
      have heq := hpre.eq_of_length (by omega)
      have hmem : byteAt s i ∈ s.data.toList.drop 1 := by
        rw [← hb, getD_eq (by omega : i < s.data.toList.length)]
        rw [List.mem_iff_getElem]
        exact ⟨i - 1, by omega, by rw [List.getElem_drop]; congr 1; omega⟩
      rw [← heq] at hmem
      have := List.all_eq_true.1 (List.all_takeWhile (p := fun c : UInt8 => decide (Wch c.toNat)) (l := s.data.toList.drop 1)) _ hmem
      exact of_decide_eq_true this
  · rintro ⟨h0, h⟩
    exact wordLen_n (by omega) (by rw [hb]; exact h0) h1 (by omega) (fun j _ hj => by rw [hb, Nat.zero_add]; exact h j (by omega)) (.inl (by omega))
theorem word0_ok (s : Str) (h : ¬ s = ⟨#[]⟩ ∧ s.size ≤ 24) : Pure Tryz.prog 83 [.sl true 1 (s.data.toList.map byteRow), iv 0] (iv (wordLen s.data.toList 0)) := by
  have h0 : s.size ≠ 0 := fun e => h.1 (size_zero.1 e)
  exact word83_ok s.data.toList 0 true (by rw [← str_size]; omega) (by rw [← str_size]; omega)
theorem nameR_ok (s : Str) : Pure Tryz.prog 48 [sv s] (.v (.bool (decide (Name s)))) := by
  refine Pure.runk (fun _ => 0) Tryz.func48 comp48 era48 (Nat.le_of_ble_eq_true rfl) fun σ => ?_
  repeat' (first | exact .nil | refine .k0 ?_ | refine .k1 ?_ | refine .k2 ?_ | refine .k3 ?_ | refine .k4 ?_ | refine .k5 ?_ | refine .k6 ?_ | refine .k7 ?_ | refine .k8 ?_ | refine .k9 ?_ | (refine .cd ?_ ?_ <;> first | with_reducible exact tF | with_reducible exact fT | (intro hc; first | exact kf hc (by assumption) | exact kt hc (by assumption) | skip)) | refine .r1 ?_ ?_ | (refine .l1 ?_; intro b) | (refine .m1 ?_ ?_; intro b) | (refine .m2 ?_ ?_; intro hlen) | (refine .m3 ?_ ?_; intro hlen) | refine .t1 ?_ ?_ ?_ | refine .t2 ?_ ?_ ?_ | refine .t3 ?_ ?_ ?_ | refine .t4 ?_ ?_ ?_ | (refine .l2 ?_; intro b) | refine .u1 ?_ ?_ ?_ (fun b u c => ?_) | refine .u2 ?_ ?_ ?_ (fun b u c => ?_) | refine .an rfl (by intro hob; first | exact keywordR_ok _ | exact word0_ok _ (by simp only [BL] at hob; exact ⟨hob.1, by omega⟩)) ?_ ?_ | refine .t5 ?_ ?_ ?_ | refine .t6 ?_ ?_ ?_ | refine .t7 ?_ ?_ ?_ | refine .r2 ?_ ?_ | refine .r3 ?_ ?_ | refine .r4 ?_ ?_ | refine .r5 ?_ ?_ | (refine .l3 ?_; intro b) | refine .r6 ?_ ?_ | refine .r7 ?_ ?_ | refine .r8 ?_ ?_ | refine .r9 ?_ ?_ | refine .ra ?_ ?_ | (show List.all _ _ = true; rfl) | (show (_ : Nat) = _; rfl))
  try any_goals ((intro hob; first | (simp_all; done) | (simp only [BL] at *; first | (simp_all; done) | omega)))
  all_goals (try simp only [BL] at *)
  · (refine Sx.Fin.intro (by repeat' first | exact .refl _ | refine .same ?_ | refine .cons ?_) (bd ?_); (try simp only [BL] at *); (try simp only [Low, Dig, Wch, and_assoc] at *))
    unfold Name Word
    constructor
    · rintro ⟨h1, h2, h3, h4⟩
      have h0 : s.size ≠ 0 := fun e => h1 (size_zero.1 e)
      have h6 : wordLen s.data.toList 0 = s.size := by omega
      have h5 := (wordLen_size (by omega)).1 h6
      exact ⟨⟨by omega, by omega, h5⟩, h4⟩
    · rintro ⟨⟨h1, h2, h3⟩, h4⟩
      have h5 := (wordLen_size h1).2 h3
      exact ⟨fun e => by have := size_zero.2 e; omega, by omega, by omega, h4⟩

end Go.Proofs.YtklncofkcfjkeaaGreatDoor
