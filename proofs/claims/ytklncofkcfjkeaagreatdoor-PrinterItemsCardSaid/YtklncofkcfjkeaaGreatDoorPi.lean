
/- Texts of types and of values. -/
import Derived.Test.YtklncofkcfjkeaaGreatDoorPh
set_option linter.unusedSimpArgs false
set_option linter.unusedVariables false
set_option maxRecDepth 100000
set_option maxHeartbeats 4000000
namespace Go.Proofs.YtklncofkcfjkeaaGreatDoor
open Go.Sx Go.Proofs
theorem app_assoc (a b c : Str) : a ++ b ++ c = a ++ (b ++ c) := str_ext (by simp)
theorem app_nil (a : Str) : a ++ (⟨#[]⟩ : Str) = a := str_ext (by simp)
theorem bs {a b : Str} (h : a = b) : AV.v (.string a) = sv b := by rw [h]
def unitT (u : List Fac) : Str := if u = [] then ⟨#[]⟩ else ⟨#[32, 91]⟩ ++ (unitS u ++ ⟨#[93]⟩)
theorem unitT_size {u : List Fac} (hu : ∀ f ∈ u, FacOK f) (hl : u.length ≤ 4) : (unitT u).size ≤ 210 := by
  have := unitS_size hu hl
  unfold unitT
  split
  · decide
  · simp only [app_size, szl, List.size_toArray, List.length_cons, List.length_nil]; omega
theorem len_zero {α : Type} {l : List α} : (l.length : Int) = 0 ↔ l = [] := by cases l <;> simp <;> omega
theorem unit_ok (fs : List Fac) (hu : ∀ f ∈ fs, FacOK f) (hl : fs.length ≤ 4) : Pure Tryz.prog 74 [.sl false 2 (fs.map Fac.cells)] (sv (unitT fs)) := by
  have hl0 := @len_zero Fac fs
  refine Pure.runk (fun _ => 0) Tryz.func74 comp74 era74 (Nat.le_of_ble_eq_true rfl) fun σ => ?_
  repeat' (first | exact .nil | refine .k0 ?_ | refine .k1 ?_ | refine .k2 ?_ | refine .k3 ?_ | refine .k4 ?_ | refine .k5 ?_ | refine .k6 ?_ | refine .k7 ?_ | refine .k8 ?_ | refine .k9 ?_ | (refine .cd ?_ ?_ <;> first | with_reducible exact tF | with_reducible exact fT | (intro hc; first | exact kf hc (by assumption) | exact kt hc (by assumption) | skip)) | refine .r1 ?_ ?_ | (refine .l1 ?_; intro b) | (refine .m1 ?_ ?_; intro b) | (refine .m2 ?_ ?_; intro hlen) | (refine .m3 ?_ ?_; intro hlen) | refine .t1 ?_ ?_ ?_ | refine .t2 ?_ ?_ ?_ | refine .t3 ?_ ?_ ?_ | refine .t4 ?_ ?_ ?_ | (refine .l2 ?_; intro b) | refine .u1 ?_ ?_ ?_ (fun b u c => ?_) | refine .u2 ?_ ?_ ?_ (fun b u c => ?_) | refine .an rfl (by intro hob; first | exact unitF_ok fs hu hl | exact unitFR_ok fs hu hl | exact join_ok' _ rfl (Nat.le_of_ble_eq_true rfl) (by have := unitS_size hu hl; simp only [lenS, szl, List.size_toArray, List.length_cons, List.length_nil]; omega)) ?_ ?_ | refine .t5 ?_ ?_ ?_ | refine .t6 ?_ ?_ ?_ | refine .t7 ?_ ?_ ?_ | refine .r2 ?_ ?_ | refine .r3 ?_ ?_ | refine .r4 ?_ ?_ | refine .r5 ?_ ?_ | (refine .l3 ?_; intro b) | refine .r6 ?_ ?_ | refine .r7 ?_ ?_ | refine .r8 ?_ ?_ | refine .r9 ?_ ?_ | refine .ra ?_ ?_ | (show List.all _ _ = true; rfl) | (show (_ : Nat) = _; rfl))
  try any_goals ((intro hob; first | (simp_all; done) | (simp only [BL] at *; first | (simp_all; done) | omega)))
  all_goals (try simp only [BL] at *)
  any_goals (first | omega | (simp only [List.length_cons, List.length_nil, List.length_append, List.length_map, List.length_take, app_size, szl, str_len, List.size_toArray]; omega))
  all_goals (simp only [hl0] at hc; refine Sx.Fin.intro (by repeat' first | exact .refl _ | refine .same ?_ | refine .cons ?_) (bs ?_); simp [unitT, hc, catS, app_nil, app_assoc]; done)
theorem unitR_ok (fs : List Fac) (hu : ∀ f ∈ fs, FacOK f) (hl : fs.length ≤ 4) : Pure Tryz.prog 77 [.sl false 2 (fs.map Fac.cells)] (sv (unitT fs)) := by
  have hs := unitS_size hu hl
  have hl0 := @len_zero Fac fs
  refine Pure.runk (fun _ => 0) Tryz.func77 comp77 era77 (Nat.le_of_ble_eq_true rfl) fun σ => ?_
  repeat' (first | exact .nil | refine .k0 ?_ | refine .k1 ?_ | refine .k2 ?_ | refine .k3 ?_ | refine .k4 ?_ | refine .k5 ?_ | refine .k6 ?_ | refine .k7 ?_ | refine .k8 ?_ | refine .k9 ?_ | (refine .cd ?_ ?_ <;> first | with_reducible exact tF | with_reducible exact fT | (intro hc; first | exact kf hc (by assumption) | exact kt hc (by assumption) | skip)) | refine .r1 ?_ ?_ | (refine .l1 ?_; intro b) | (refine .m1 ?_ ?_; intro b) | (refine .m2 ?_ ?_; intro hlen) | (refine .m3 ?_ ?_; intro hlen) | refine .t1 ?_ ?_ ?_ | refine .t2 ?_ ?_ ?_ | refine .t3 ?_ ?_ ?_ | refine .t4 ?_ ?_ ?_ | (refine .l2 ?_; intro b) | refine .u1 ?_ ?_ ?_ (fun b u c => ?_) | refine .u2 ?_ ?_ ?_ (fun b u c => ?_) | refine .an rfl (by intro hob; first | exact unitF_ok fs hu hl | exact unitFR_ok fs hu hl | exact join_ok' _ rfl (Nat.le_of_ble_eq_true rfl) (by have := unitS_size hu hl; simp only [lenS, szl, List.size_toArray, List.length_cons, List.length_nil]; omega)) ?_ ?_ | refine .t5 ?_ ?_ ?_ | refine .t6 ?_ ?_ ?_ | refine .t7 ?_ ?_ ?_ | refine .r2 ?_ ?_ | refine .r3 ?_ ?_ | refine .r4 ?_ ?_ | refine .r5 ?_ ?_ | (refine .l3 ?_; intro b) | refine .r6 ?_ ?_ | refine .r7 ?_ ?_ | refine .r8 ?_ ?_ | refine .r9 ?_ ?_ | refine .ra ?_ ?_ | (show List.all _ _ = true; rfl) | (show (_ : Nat) = _; rfl))
  try any_goals ((intro hob; first | (simp_all; done) | (simp only [BL] at *; first | (simp_all; done) | omega)))
  all_goals (try simp only [BL] at *)
  any_goals (first | omega | (simp only [List.length_cons, List.length_nil, List.length_append, List.length_map, List.length_take, app_size, szl, str_len, List.size_toArray]; omega))
  all_goals (simp only [hl0] at hc; refine Sx.Fin.intro (by repeat' first | exact .refl _ | refine .same ?_ | refine .cons ?_) (bs ?_); simp [unitT, hc, catS, app_nil, app_assoc]; done)
def tyS (t : Ty) : Str :=
  if t.kind = 1 then ⟨#[98, 111, 111, 108]⟩ else if t.kind = 4 then ⟨#[116, 101, 120, 116]⟩ else if t.kind = 5 then ⟨#[107, 101, 121, 32]⟩ ++ t.of
  else if t.kind = 2 then ⟨#[105, 110, 116]⟩ ++ unitT t.unit else ⟨#[100, 101, 99]⟩ ++ unitT t.unit
theorem kind_ok (t : Ty) (hu : ∀ f ∈ t.unit, FacOK f) (hl : t.unit.length ≤ 4) (ho : t.of.size ≤ 100) : Pure Tryz.prog 36 [.agg t.cells] (sv (tyS t)) := by
  have hs := unitT_size hu hl
  refine Pure.runk (fun _ => 0) Tryz.func36 comp36 era36 (Nat.le_of_ble_eq_true rfl) fun σ => ?_
  repeat' (first | exact .nil | refine .k0 ?_ | refine .k1 ?_ | refine .k2 ?_ | refine .k3 ?_ | refine .k4 ?_ | refine .k5 ?_ | refine .k6 ?_ | refine .k7 ?_ | refine .k8 ?_ | refine .k9 ?_ | (refine .cd ?_ ?_ <;> first | with_reducible exact tF | with_reducible exact fT | (intro hc; first | exact kf hc (by assumption) | exact kt hc (by assumption) | skip)) | refine .r1 ?_ ?_ | (refine .l1 ?_; intro b) | (refine .m1 ?_ ?_; intro b) | (refine .m2 ?_ ?_; intro hlen) | (refine .m3 ?_ ?_; intro hlen) | refine .t1 ?_ ?_ ?_ | refine .t2 ?_ ?_ ?_ | refine .t3 ?_ ?_ ?_ | refine .t4 ?_ ?_ ?_ | (refine .l2 ?_; intro b) | refine .u1 ?_ ?_ ?_ (fun b u c => ?_) | refine .u2 ?_ ?_ ?_ (fun b u c => ?_) | refine .an rfl (by intro hob; first | exact unit_ok t.unit hu hl | exact unitR_ok t.unit hu hl | exact join_ok' _ rfl (Nat.le_of_ble_eq_true rfl) (by simp only [lenS, szl, List.size_toArray, List.length_cons, List.length_nil]; omega)) ?_ ?_ | refine .t5 ?_ ?_ ?_ | refine .t6 ?_ ?_ ?_ | refine .t7 ?_ ?_ ?_ | refine .r2 ?_ ?_ | refine .r3 ?_ ?_ | refine .r4 ?_ ?_ | refine .r5 ?_ ?_ | (refine .l3 ?_; intro b) | refine .r6 ?_ ?_ | refine .r7 ?_ ?_ | refine .r8 ?_ ?_ | refine .r9 ?_ ?_ | refine .ra ?_ ?_ | (show List.all _ _ = true; rfl) | (show (_ : Nat) = _; rfl))
  try any_goals ((intro hob; first | (simp_all; done) | (simp only [BL] at *; first | (simp_all; done) | omega)))
  all_goals (try simp only [BL] at *)
  any_goals (first | omega | (simp only [List.length_cons, List.length_nil, List.length_append, List.length_map, List.length_take, app_size, szl, str_len, List.size_toArray]; omega))
  all_goals (refine Sx.Fin.intro (by repeat' first | exact .refl _ | refine .same ?_ | refine .cons ?_) (bs ?_); simp [unitT, tyS, catS, app_nil, app_assoc, *]; done)
theorem kindR_ok (t : Ty) (hu : ∀ f ∈ t.unit, FacOK f) (hl : t.unit.length ≤ 4) (ho : t.of.size ≤ 100) : Pure Tryz.prog 38 [.agg t.cells] (sv (tyS t)) := by
  have hs := unitT_size hu hl
  refine Pure.runk (fun _ => 0) Tryz.func38 comp38 era38 (Nat.le_of_ble_eq_true rfl) fun σ => ?_
  repeat' (first | exact .nil | refine .k0 ?_ | refine .k1 ?_ | refine .k2 ?_ | refine .k3 ?_ | refine .k4 ?_ | refine .k5 ?_ | refine .k6 ?_ | refine .k7 ?_ | refine .k8 ?_ | refine .k9 ?_ | (refine .cd ?_ ?_ <;> first | with_reducible exact tF | with_reducible exact fT | (intro hc; first | exact kf hc (by assumption) | exact kt hc (by assumption) | skip)) | refine .r1 ?_ ?_ | (refine .l1 ?_; intro b) | (refine .m1 ?_ ?_; intro b) | (refine .m2 ?_ ?_; intro hlen) | (refine .m3 ?_ ?_; intro hlen) | refine .t1 ?_ ?_ ?_ | refine .t2 ?_ ?_ ?_ | refine .t3 ?_ ?_ ?_ | refine .t4 ?_ ?_ ?_ | (refine .l2 ?_; intro b) | refine .u1 ?_ ?_ ?_ (fun b u c => ?_) | refine .u2 ?_ ?_ ?_ (fun b u c => ?_) | refine .an rfl (by intro hob; first | exact unit_ok t.unit hu hl | exact unitR_ok t.unit hu hl | exact join_ok' _ rfl (Nat.le_of_ble_eq_true rfl) (by simp only [lenS, szl, List.size_toArray, List.length_cons, List.length_nil]; omega)) ?_ ?_ | refine .t5 ?_ ?_ ?_ | refine .t6 ?_ ?_ ?_ | refine .t7 ?_ ?_ ?_ | refine .r2 ?_ ?_ | refine .r3 ?_ ?_ | refine .r4 ?_ ?_ | refine .r5 ?_ ?_ | (refine .l3 ?_; intro b) | refine .r6 ?_ ?_ | refine .r7 ?_ ?_ | refine .r8 ?_ ?_ | refine .r9 ?_ ?_ | refine .ra ?_ ?_ | (show List.all _ _ = true; rfl) | (show (_ : Nat) = _; rfl))
  try any_goals ((intro hob; first | (simp_all; done) | (simp only [BL] at *; first | (simp_all; done) | omega)))
  all_goals (try simp only [BL] at *)
  any_goals (first | omega | (simp only [List.length_cons, List.length_nil, List.length_append, List.length_map, List.length_take, app_size, szl, str_len, List.size_toArray]; omega))
  all_goals (refine Sx.Fin.intro (by repeat' first | exact .refl _ | refine .same ?_ | refine .cons ?_) (bs ?_); simp [unitT, tyS, catS, app_nil, app_assoc, *]; done)

theorem dd_small {u : Nat} (h : u < 10) : Lib.decDigits u = [UInt8.ofNat (48 + u)] := by rw [Lib.decDigits, dif_pos h]
theorem dd_big {u : Nat} (h : ¬ u < 10) : Lib.decDigits u = Lib.decDigits (u / 10) ++ [UInt8.ofNat (48 + u % 10)] := by rw [Lib.decDigits, dif_neg h]
/-- What is still to be printed, ahead of what is. -/
def ddA (m : Nat) (l : List UInt8) : List UInt8 := if m = 0 then l else Lib.decDigits m ++ l
theorem ddA_step (m : Nat) (l : List UInt8) : ddA (m / 10) (UInt8.ofNat (48 + m % 10) :: l) = Lib.decDigits m ++ l := by
  unfold ddA
  by_cases h : m < 10
  · rw [if_pos (by omega), dd_small h, Nat.mod_eq_of_lt h]; rfl
  · rw [if_neg (by omega), dd_big h, List.append_assoc]; rfl
theorem dd_len {u : Nat} (h : u ≤ 9223372036854775807) : (Lib.decDigits u).length ≤ 21 := by
  have := Lib.itoa_length_le (u : Int) (by omega) (by omega)
  rwa [Lib.itoa_nonneg] at this
theorem ddA_len (m : Nat) (l : List UInt8) : l.length ≤ (ddA m l).length := by
  unfold ddA; split
  · exact Nat.le_refl _
  · rw [List.length_append]; omega
theorem tmN (m : Nat) : (m : Int).tmod 10 = ((m % 10 : Nat) : Int) := rfl
theorem tdN (m : Nat) : (m : Int).tdiv 10 = ((m / 10 : Nat) : Int) := rfl
theorem dB (m : Nat) : bytesI [IntKind.u8.wrap (IntKind.i64.wrap (48 + (m : Int).tmod 10))] = ⟨#[UInt8.ofNat (48 + m % 10)]⟩ := by
  have h : m % 10 < 10 := Nat.mod_lt _ (by omega)
  have e : IntKind.u8.wrap (IntKind.i64.wrap (48 + (m : Int).tmod 10)) = ((48 + m % 10 : Nat) : Int) := by
    rw [tmN, i64w (by omega), Go.IntWalk.u8_in _ (by omega)]; omega
  rw [e]; rfl
theorem bI1 (n : Int) : (bytesI [n]).size = 1 := rfl
theorem digits05_ok (n : Nat) (h : n ≤ 1152921504606846976) : Pure Tryz.prog 46 [iv n] (sv ⟨(Lib.decDigits n).toArray⟩) := by
  refine Pure.runk (fun _ => 0) Tryz.func46 comp46 era46 (Nat.le_of_ble_eq_true rfl) fun σ => ?_
  repeat' (first | exact .nil | refine .k0 ?_ | refine .k1 ?_ | refine .k2 ?_ | refine .k3 ?_ | refine .k4 ?_ | refine .k5 ?_ | refine .k6 ?_ | refine .k7 ?_ | refine .k8 ?_ | refine .k9 ?_ | (refine .cd ?_ ?_ <;> first | with_reducible exact tF | with_reducible exact fT | (intro hc; first | exact kf hc (by assumption) | exact kt hc (by assumption) | skip)) | refine .r1 ?_ ?_ | (refine .l1 ?_; intro b) | (refine .m1 ?_ ?_; intro b) | (refine .m2 ?_ ?_; intro hlen) | (refine .m3 ?_ ?_; intro hlen) | refine .t1 ?_ ?_ ?_ | refine .t2 ?_ ?_ ?_ | refine .t3 ?_ ?_ ?_ | refine .t4 ?_ ?_ ?_ | (refine .l2 ?_; intro b) | refine .u1 ?_ ?_ ?_ (fun b u c => ?_) | refine .u2 ?_ ?_ ?_ (fun b u c => ?_) | refine .an rfl (by intro hob; first | fail) ?_ ?_ | refine .t5 ?_ ?_ ?_ | refine .t6 ?_ ?_ ?_ | refine .t7 ?_ ?_ ?_ | refine .r2 ?_ ?_ | refine .r3 ?_ ?_ | refine .r4 ?_ ?_ | refine .r5 ?_ ?_ | (refine .l3 ?_; intro b) | refine .r6 ?_ ?_ | refine .r7 ?_ ?_ | refine .r8 ?_ ?_ | refine .r9 ?_ ?_ | refine .ra ?_ ?_ | (show List.all _ _ = true; rfl) | (show (_ : Nat) = _; rfl))
  try any_goals ((intro hob; first | (simp_all; done) | (simp only [BL] at *; first | (simp_all; done) | omega)))
  all_goals (try simp only [BL] at *)
  refine WK_loop (fun k rg σ' => ∃ (i m : Nat) (s : Str), k = m + (if i = 0 then 1 else 0) ∧ i ≤ s.size ∧ m ≤ n ∧ (if i = 0 then m = n ∧ s = ⟨#[]⟩ else ddA m s.data.toList = Lib.decDigits n) ∧ σ' = σ ∧ rg = [(0, iv n), (3, sv s), (4, iv m), (5, iv i)]) (n + 1) rfl ⟨_, _, by repeat' first | exact .row | exact .refl _ | exact .nil | refine .cons ?_ ?_ | refine .tup ?_ | refine .agg ?_ | exact .sl | exact .own _ | exact .tag, by repeat' first | exact .refl _ | refine .same ?_ | refine .cons ?_, 0, n, ⟨#[]⟩, rfl, Nat.zero_le _, Nat.le_refl _, ⟨rfl, rfl⟩, rfl, rfl⟩ ?_
  rintro k _ _ ⟨i, m, s, hk, hi, hm, hp, rfl, rfl⟩
  have hsz : s.size ≤ 21 := by
    split at hp
    · rw [hp.2]; decide
    · have := ddA_len m s.data.toList
      have h2 := dd_len (u := n) (by omega)
      rw [hp] at this
      exact Nat.le_trans this h2
  repeat' (first | exact .nil | refine .k0 ?_ | refine .k1 ?_ | refine .k2 ?_ | refine .k3 ?_ | refine .k4 ?_ | refine .k5 ?_ | refine .k6 ?_ | refine .k7 ?_ | refine .k8 ?_ | refine .k9 ?_ | (refine .cd ?_ ?_ <;> first | with_reducible exact tF | with_reducible exact fT | (intro hc; first | exact kf hc (by assumption) | exact kt hc (by assumption) | skip)) | refine .r1 ?_ ?_ | (refine .l1 ?_; intro b) | (refine .m1 ?_ ?_; intro b) | (refine .m2 ?_ ?_; intro hlen) | (refine .m3 ?_ ?_; intro hlen) | refine .t1 ?_ ?_ ?_ | refine .t2 ?_ ?_ ?_ | refine .t3 ?_ ?_ ?_ | refine .t4 ?_ ?_ ?_ | (refine .l2 ?_; intro b) | refine .u1 ?_ ?_ ?_ (fun b u c => ?_) | refine .u2 ?_ ?_ ?_ (fun b u c => ?_) | refine .an rfl (by intro hob; first | fail) ?_ ?_ | refine .t5 ?_ ?_ ?_ | refine .t6 ?_ ?_ ?_ | refine .t7 ?_ ?_ ?_ | refine .r2 ?_ ?_ | refine .r3 ?_ ?_ | refine .r4 ?_ ?_ | refine .r5 ?_ ?_ | (refine .l3 ?_; intro b) | refine .r6 ?_ ?_ | refine .r7 ?_ ?_ | refine .r8 ?_ ?_ | refine .r9 ?_ ?_ | refine .ra ?_ ?_ | (show List.all _ _ = true; rfl) | (show (_ : Nat) = _; rfl))
  try any_goals ((intro hob; first | (simp_all; done) | (simp only [BL] at *; first | (simp_all; done) | omega)))
  all_goals (try simp only [BL] at *)
  all_goals try (exfalso; first | omega | (rw [tmN] at hc; omega))
  any_goals (rw [bI1]; omega)
  any_goals (first | omega | (simp only [List.length_cons, List.length_nil, List.length_append, List.length_map, List.length_take, app_size, szl, str_len, List.size_toArray]; omega))
  · have h0 : m % 10 < 10 := Nat.mod_lt _ (by omega)
    refine ⟨m / 10 + 0, by split at hk <;> omega, _, _, by repeat' first | exact .row | exact .refl _ | exact .nil | refine .cons ?_ ?_ | refine .tup ?_ | refine .agg ?_ | exact .sl | exact .own _ | exact .tag, by repeat' first | exact .refl _ | refine .same ?_ | refine .cons ?_, i + 1, m / 10, (⟨#[UInt8.ofNat (48 + m % 10)]⟩ : Str) ++ s, by rw [if_neg (by omega)], ?_, by omega, ?_, rfl, ?_⟩
    · rw [app_size, szl]; show _ ≤ 1 + _; omega
    · rw [if_neg (by omega), str_app]
      show ddA (m / 10) (UInt8.ofNat (48 + m % 10) :: _) = _
      rw [ddA_step]
      split at hp
      · rw [hp.1, hp.2]; simp
      · rw [← hp, ddA, if_neg (by omega)]; rfl
    · rw [dB, tdN, i64w (by omega), i64w (by omega)]; rfl
  · refine Sx.Fin.intro (by repeat' first | exact .refl _ | refine .same ?_ | refine .cons ?_) (bs (str_ext ?_))
    rw [if_neg (by omega)] at hp
    obtain rfl : m = 0 := by omega
    rw [← hp]; rfl
def lowD : Nat → Nat → List UInt8
  | 0, _ => []
  | k + 1, x => lowD k (x / 10) ++ [UInt8.ofNat (48 + x % 10)]
theorem lowD_succ : ∀ (k x : Nat), lowD (k + 1) x = UInt8.ofNat (48 + x / 10 ^ k % 10) :: lowD k x
  | 0, x => by simp [lowD]
  | k + 1, x => by
    rw [lowD, lowD_succ k (x / 10), lowD, Nat.div_div_eq_div_mul, Nat.pow_succ, Nat.mul_comm 10]; rfl
theorem lowD_len : ∀ (k x : Nat), (lowD k x).length = k
  | 0, _ => rfl
  | k + 1, x => by rw [lowD, List.length_append, lowD_len k]; rfl
def decS (x : Nat) : Str := ⟨(Lib.decDigits (x / 10 ^ 6) ++ 46 :: lowD 6 x).toArray⟩
theorem dd_pos (n : Nat) : 1 ≤ (Lib.decDigits n).length := by
  by_cases h : n < 10
  · rw [dd_small h]; exact Nat.le_refl _
  · rw [dd_big h, List.length_append]; exact Nat.le_add_left _ _
theorem dd_split : ∀ (k n : Nat), 10 ^ k ≤ n → Lib.decDigits n = Lib.decDigits (n / 10 ^ k) ++ lowD k n
  | 0, n, _ => by simp [lowD]
  | k + 1, n, h => by
    have h10 : 0 < 10 ^ k := Nat.pow_pos (by omega)
    rw [Nat.pow_succ] at h
    rw [dd_big (by omega), dd_split k (n / 10) (by omega), Nat.div_div_eq_div_mul, lowD, Nat.pow_succ, Nat.mul_comm 10, List.append_assoc]
theorem dd_lt : ∀ (k n : Nat), n < 10 ^ (k + 1) → (Lib.decDigits n).length ≤ k + 1
  | 0, n, h => by rw [dd_small (by omega)]; exact Nat.le_refl _
  | k + 1, n, h => by
    by_cases h1 : n < 10
    · rw [dd_small h1]; simp
    · rw [Nat.pow_succ] at h
      have := dd_lt k (n / 10) (by omega)
      rw [dd_big h1, List.length_append]; simp only [List.length_cons, List.length_nil]; omega
theorem lowD_zero : ∀ k : Nat, lowD k 0 = List.replicate k 48
  | 0 => rfl
  | k + 1 => by rw [lowD, Nat.zero_div, lowD_zero k, List.replicate_succ']; rfl
theorem dd_pad : ∀ (k z n : Nat), z + (Lib.decDigits n).length = k → List.replicate z 48 ++ Lib.decDigits n = lowD k n
  | 0, z, n, h => by have := dd_pos n; omega
  | k + 1, z, n, h => by
    by_cases h1 : n < 10
    · rw [dd_small h1] at h ⊢
      simp only [List.length_cons, List.length_nil] at h
      obtain rfl : z = k := by omega
      rw [lowD, Nat.div_eq_of_lt h1, lowD_zero, Nat.mod_eq_of_lt h1]
    · rw [dd_big h1] at h ⊢
      rw [List.length_append] at h
      simp only [List.length_cons, List.length_nil] at h
      rw [← List.append_assoc, dd_pad k z (n / 10) (by omega), lowD]
theorem dec_parts {n z : Nat} {L : List UInt8} (hL : L = List.replicate z 48 ++ Lib.decDigits n) (h7 : 7 ≤ L.length) (hz : z = 0 ∨ L.length ≤ 7) : L = Lib.decDigits (n / 10 ^ 6) ++ lowD 6 n := by
  by_cases h : n < 10 ^ 6
  · have h1 := dd_lt 5 n h
    have hl : L.length = z + (Lib.decDigits n).length := by rw [hL, List.length_append, List.length_replicate]
    obtain ⟨y, rfl⟩ : ∃ y, z = y + 1 := ⟨z - 1, by omega⟩
    rw [hL, List.replicate_succ, List.cons_append, dd_pad 6 y n (by omega), Nat.div_eq_of_lt h, dd_small (by omega)]; rfl
  · have h1 := dd_split 6 n (by omega)
    have hl : L.length = z + (Lib.decDigits n).length := by rw [hL, List.length_append, List.length_replicate]
    have h2 := dd_pos (n / 10 ^ 6)
    have h3 := congrArg List.length h1
    rw [List.length_append, lowD_len] at h3
    have : z = 0 := by omega
    subst this
    rw [hL, ← h1]; rfl
def decInv (n i m : Nat) (s : Str) : Prop := (i ≤ 6 ∧ m = n / 10 ^ i ∧ s.data.toList = lowD i n) ∨ (7 ≤ i ∧ ∃ hi, s.data.toList = hi ++ 46 :: lowD 6 n ∧ ddA m hi = Lib.decDigits (n / 10 ^ 6))
theorem decInv_size {n i m : Nat} {s : Str} (hq : (Lib.decDigits (n / 10 ^ 6)).length ≤ 21) (hp : decInv n i m s) : s.size ≤ 30 := by
  rcases hp with ⟨h1, h2, h3⟩ | ⟨h1, l, h3, h4⟩
  · have := congrArg List.length h3
    rw [lowD_len] at this
    have h5 : s.data.toList.length = s.size := rfl
    omega
  · have := congrArg List.length h3
    rw [List.length_append, List.length_cons, lowD_len] at this
    have h5 : s.data.toList.length = s.size := rfl
    have h6 := ddA_len m l
    rw [h4] at h6
    omega
theorem decInv_6 {n i m : Nat} {s : Str} (hp : decInv n i m s) (hi : i = 6) : decInv n (i + 1) (m / 10) (⟨#[UInt8.ofNat (48 + m % 10)]⟩ ++ (⟨#[46]⟩ ++ s)) := by
  subst hi
  rcases hp with ⟨h1, h2, h3⟩ | ⟨h1, _⟩
  · refine .inr ⟨Nat.le_refl _, [UInt8.ofNat (48 + m % 10)], ?_, ?_⟩
    · rw [str_app, str_app, h3]; rfl
    · rw [ddA_step, h2, List.append_nil]
  · omega
theorem decInv_n {n i m : Nat} {s : Str} (hp : decInv n i m s) (hi : ¬ i = 6) (hc : i < 7 ∨ m ≠ 0) : decInv n (i + 1) (m / 10) (⟨#[UInt8.ofNat (48 + m % 10)]⟩ ++ s) := by
  rcases hp with ⟨h1, h2, h3⟩ | ⟨h1, l, h3, h4⟩
  · refine .inl ⟨by omega, by rw [h2, Nat.div_div_eq_div_mul, Nat.pow_succ], ?_⟩
    rw [str_app, h3, lowD_succ, h2]; rfl
  · refine .inr ⟨by omega, UInt8.ofNat (48 + m % 10) :: l, ?_, ?_⟩
    · rw [str_app, h3]; rfl
    · rw [ddA_step, ← h4, ddA, if_neg (by omega)]
theorem decInv_end {n i m : Nat} {s : Str} (hp : decInv n i m s) (hi : ¬ i < 7) (hm : m = 0) : s = decS n := by
  rcases hp with ⟨h1, h2, h3⟩ | ⟨h1, l, h3, h4⟩
  · omega
  · subst hm
    apply str_ext
    rw [h3]
    have : l = Lib.decDigits (n / 10 ^ 6) := h4
    rw [this]; rfl
theorem dec02_ok (n : Nat) (h : n ≤ 1152921504606846976) : Pure Tryz.prog 126 [iv n] (sv (decS n)) := by
  have hq : (Lib.decDigits (n / 10 ^ 6)).length ≤ 21 := dd_len (by omega)
  refine Pure.runk (fun _ => 0) Tryz.func126 comp126 era126 (Nat.le_of_ble_eq_true rfl) fun σ => ?_
  repeat' (first | exact .nil | refine .k0 ?_ | refine .k1 ?_ | refine .k2 ?_ | refine .k3 ?_ | refine .k4 ?_ | refine .k5 ?_ | refine .k6 ?_ | refine .k7 ?_ | refine .k8 ?_ | refine .k9 ?_ | (refine .cd ?_ ?_ <;> first | with_reducible exact tF | with_reducible exact fT | (intro hc; first | exact kf hc (by assumption) | exact kt hc (by assumption) | skip)) | refine .r1 ?_ ?_ | (refine .l1 ?_; intro b) | (refine .m1 ?_ ?_; intro b) | (refine .m2 ?_ ?_; intro hlen) | (refine .m3 ?_ ?_; intro hlen) | refine .t1 ?_ ?_ ?_ | refine .t2 ?_ ?_ ?_ | refine .t3 ?_ ?_ ?_ | refine .t4 ?_ ?_ ?_ | (refine .l2 ?_; intro b) | refine .u1 ?_ ?_ ?_ (fun b u c => ?_) | refine .u2 ?_ ?_ ?_ (fun b u c => ?_) | refine .an rfl (by intro hob; first | exact itoa_ok _ (by first | omega | (simp only [BL] at *; omega))) ?_ ?_ | refine .t5 ?_ ?_ ?_ | refine .t6 ?_ ?_ ?_ | refine .t7 ?_ ?_ ?_ | refine .r2 ?_ ?_ | refine .r3 ?_ ?_ | refine .r4 ?_ ?_ | refine .r5 ?_ ?_ | (refine .l3 ?_; intro b) | refine .r6 ?_ ?_ | refine .r7 ?_ ?_ | refine .r8 ?_ ?_ | refine .r9 ?_ ?_ | refine .ra ?_ ?_ | (show List.all _ _ = true; rfl) | (show (_ : Nat) = _; rfl))
  try any_goals ((intro hob; first | (simp_all; done) | (simp only [BL] at *; first | (simp_all; done) | omega)))
  all_goals (try simp only [BL] at *)
  refine WK_loop (fun k rg σ' => ∃ (i m : Nat) (s : Str), k = m + (7 - i) ∧ i ≤ s.size ∧ m ≤ n ∧ decInv n i m s ∧ σ' = σ ∧ rg = [(0, iv n), (3, sv s), (4, iv m), (5, iv i)]) (n + 7) rfl ⟨_, _, by repeat' first | exact .row | exact .refl _ | exact .nil | refine .cons ?_ ?_ | refine .tup ?_ | refine .agg ?_ | exact .sl | exact .own _ | exact .tag, by repeat' first | exact .refl _ | refine .same ?_ | refine .cons ?_, 0, n, ⟨#[]⟩, rfl, Nat.zero_le _, Nat.le_refl _, .inl ⟨by omega, by simp, rfl⟩, rfl, rfl⟩ ?_
  rintro k _ _ ⟨i, m, s, hk, hi, hm, hp, rfl, rfl⟩
  have hsz := decInv_size hq hp
  have hneg : ¬ (m : Int).tmod 10 < 0 := by rw [tmN]; omega
  repeat' (first | exact .nil | refine .k0 ?_ | refine .k1 ?_ | refine .k2 ?_ | refine .k3 ?_ | refine .k4 ?_ | refine .k5 ?_ | refine .k6 ?_ | refine .k7 ?_ | refine .k8 ?_ | refine .k9 ?_ | (refine .cd ?_ ?_ <;> first | with_reducible exact tF | with_reducible exact fT | (intro hc; first | exact kf hc (by assumption) | exact kt hc (by assumption) | skip)) | refine .r1 ?_ ?_ | (refine .l1 ?_; intro b) | (refine .m1 ?_ ?_; intro b) | (refine .m2 ?_ ?_; intro hlen) | (refine .m3 ?_ ?_; intro hlen) | refine .t1 ?_ ?_ ?_ | refine .t2 ?_ ?_ ?_ | refine .t3 ?_ ?_ ?_ | refine .t4 ?_ ?_ ?_ | (refine .l2 ?_; intro b) | refine .u1 ?_ ?_ ?_ (fun b u c => ?_) | refine .u2 ?_ ?_ ?_ (fun b u c => ?_) | refine .an rfl (by intro hob; first | exact itoa_ok _ (by first | omega | (simp only [BL] at *; omega))) ?_ ?_ | refine .t5 ?_ ?_ ?_ | refine .t6 ?_ ?_ ?_ | refine .t7 ?_ ?_ ?_ | refine .r2 ?_ ?_ | refine .r3 ?_ ?_ | refine .r4 ?_ ?_ | refine .r5 ?_ ?_ | (refine .l3 ?_; intro b) | refine .r6 ?_ ?_ | refine .r7 ?_ ?_ | refine .r8 ?_ ?_ | refine .r9 ?_ ?_ | refine .ra ?_ ?_ | (show List.all _ _ = true; rfl) | (show (_ : Nat) = _; rfl))
  try any_goals ((intro hob; first | (simp_all; done) | (simp only [BL] at *; first | (simp_all; done) | omega)))
  all_goals (try simp only [BL] at *)
  all_goals try (exfalso; first | omega | contradiction)
  any_goals (rw [bI1]; omega)
  any_goals (rw [bI1]; (first | omega | (simp only [List.length_cons, List.length_nil, List.length_append, List.length_map, List.length_take, app_size, szl, str_len, List.size_toArray]; omega)))
  any_goals (first | omega | (simp only [List.length_cons, List.length_nil, List.length_append, List.length_map, List.length_take, app_size, szl, str_len, List.size_toArray]; omega))
  · refine ⟨m / 10 + (7 - (i + 1)), by omega, _, _, by repeat' first | exact .row | exact .refl _ | exact .nil | refine .cons ?_ ?_ | refine .tup ?_ | refine .agg ?_ | exact .sl | exact .own _ | exact .tag, by repeat' first | exact .refl _ | refine .same ?_ | refine .cons ?_, i + 1, m / 10, _, rfl, ?_, by omega, decInv_6 hp (by omega), rfl, ?_⟩
    · rw [app_size, app_size, szl]; show _ ≤ 1 + _; omega
    · rw [dB, tdN, i64w (by omega), i64w (by omega)]; rfl
  · refine ⟨m / 10 + (7 - (i + 1)), by omega, _, _, by repeat' first | exact .row | exact .refl _ | exact .nil | refine .cons ?_ ?_ | refine .tup ?_ | refine .agg ?_ | exact .sl | exact .own _ | exact .tag, by repeat' first | exact .refl _ | refine .same ?_ | refine .cons ?_, i + 1, m / 10, _, rfl, ?_, by omega, decInv_n hp (by omega) (by omega), rfl, ?_⟩
    · rw [app_size, szl]; show _ ≤ 1 + _; omega
    · rw [dB, tdN, i64w (by omega), i64w (by omega)]; rfl
  · refine Sx.Fin.intro (by repeat' first | exact .refl _ | refine .same ?_ | refine .cons ?_) (bs (decInv_end hp (by omega) (by omega)))
theorem dec_ok (n : Nat) (h : n ≤ 1152921504606846976) : Pure Tryz.prog 140 [iv n] (sv (decS n)) := by
  have hq : (Lib.decDigits n).length ≤ 21 := dd_len (by omega)
  refine Pure.runk (fun _ => 0) Tryz.func140 comp140 era140 (Nat.le_of_ble_eq_true rfl) fun σ => ?_
  repeat' (first | exact .nil | refine .k0 ?_ | refine .k1 ?_ | refine .k2 ?_ | refine .k3 ?_ | refine .k4 ?_ | refine .k5 ?_ | refine .k6 ?_ | refine .k7 ?_ | refine .k8 ?_ | refine .k9 ?_ | (refine .cd ?_ ?_ <;> first | with_reducible exact tF | with_reducible exact fT | (intro hc; first | exact kf hc (by assumption) | exact kt hc (by assumption) | skip)) | refine .r1 ?_ ?_ | (refine .l1 ?_; intro b) | (refine .m1 ?_ ?_; intro b) | (refine .m2 ?_ ?_; intro hlen) | (refine .m3 ?_ ?_; intro hlen) | refine .t1 ?_ ?_ ?_ | refine .t2 ?_ ?_ ?_ | refine .t3 ?_ ?_ ?_ | refine .t4 ?_ ?_ ?_ | (refine .l2 ?_; intro b) | refine .u1 ?_ ?_ ?_ (fun b u c => ?_) | refine .u2 ?_ ?_ ?_ (fun b u c => ?_) | refine .an rfl (by intro hob; first | exact itoa_ok _ (by first | omega | (simp only [BL] at *; omega))) ?_ ?_ | refine .t5 ?_ ?_ ?_ | refine .t6 ?_ ?_ ?_ | refine .t7 ?_ ?_ ?_ | refine .r2 ?_ ?_ | refine .r3 ?_ ?_ | refine .r4 ?_ ?_ | refine .r5 ?_ ?_ | (refine .l3 ?_; intro b) | refine .r6 ?_ ?_ | refine .r7 ?_ ?_ | refine .r8 ?_ ?_ | refine .r9 ?_ ?_ | refine .ra ?_ ?_ | (show List.all _ _ = true; rfl) | (show (_ : Nat) = _; rfl))
  try any_goals ((intro hob; first | (simp_all; done) | (simp only [BL] at *; first | (simp_all; done) | omega)))
  all_goals (try simp only [BL] at *)
  all_goals try (exfalso; omega)
  refine WK_loop (fun k rg σ' => ∃ (z : Nat) (s : Str), k = 7 - s.size ∧ s.data.toList = List.replicate z 48 ++ Lib.decDigits n ∧ (z = 0 ∨ s.size ≤ 7) ∧ σ' = σ ∧ rg = [(3, sv s), (4, sv ⟨#[]⟩)]) (7 - (itoaS n).size) rfl ⟨_, _, by repeat' first | exact .row | exact .refl _ | exact .nil | refine .cons ?_ ?_ | refine .tup ?_ | refine .agg ?_ | exact .sl | exact .own _ | exact .tag, by repeat' first | exact .refl _ | refine .same ?_ | refine .cons ?_, 0, itoaS n, rfl, by rw [itoaS, Lib.itoa_nonneg]; rfl, .inl rfl, rfl, rfl⟩ ?_
  rintro k _ _ ⟨z, s, hk, hs, hz, rfl, rfl⟩
  have hl : s.size = z + (Lib.decDigits n).length := by
    have := congrArg List.length hs
    rwa [List.length_append, List.length_replicate] at this
  repeat' (first | exact .nil | refine .k0 ?_ | refine .k1 ?_ | refine .k2 ?_ | refine .k3 ?_ | refine .k4 ?_ | refine .k5 ?_ | refine .k6 ?_ | refine .k7 ?_ | refine .k8 ?_ | refine .k9 ?_ | (refine .cd ?_ ?_ <;> first | with_reducible exact tF | with_reducible exact fT | (intro hc; first | exact kf hc (by assumption) | exact kt hc (by assumption) | skip)) | refine .r1 ?_ ?_ | (refine .l1 ?_; intro b) | (refine .m1 ?_ ?_; intro b) | (refine .m2 ?_ ?_; intro hlen) | (refine .m3 ?_ ?_; intro hlen) | refine .t1 ?_ ?_ ?_ | refine .t2 ?_ ?_ ?_ | refine .t3 ?_ ?_ ?_ | refine .t4 ?_ ?_ ?_ | (refine .l2 ?_; intro b) | refine .u1 ?_ ?_ ?_ (fun b u c => ?_) | refine .u2 ?_ ?_ ?_ (fun b u c => ?_) | refine .an rfl (by intro hob; first | exact itoa_ok _ (by first | omega | (simp only [BL] at *; omega))) ?_ ?_ | refine .t5 ?_ ?_ ?_ | refine .t6 ?_ ?_ ?_ | refine .t7 ?_ ?_ ?_ | refine .r2 ?_ ?_ | refine .r3 ?_ ?_ | refine .r4 ?_ ?_ | refine .r5 ?_ ?_ | (refine .l3 ?_; intro b) | refine .r6 ?_ ?_ | refine .r7 ?_ ?_ | refine .r8 ?_ ?_ | refine .r9 ?_ ?_ | refine .ra ?_ ?_ | (show List.all _ _ = true; rfl) | (show (_ : Nat) = _; rfl))
  try any_goals ((intro hob; first | (simp_all; done) | (simp only [BL] at *; first | (simp_all; done) | omega)))
  all_goals (try simp only [BL] at *)
  all_goals have hsz : s.size ≤ 28 := by omega
  any_goals (first | omega | (simp only [List.length_cons, List.length_nil, List.length_append, List.length_map, List.length_take, app_size, szl, str_len, List.size_toArray]; omega))
  · refine ⟨7 - (s.size + 1), by omega, _, _, by repeat' first | exact .row | exact .refl _ | exact .nil | refine .cons ?_ ?_ | refine .tup ?_ | refine .agg ?_ | exact .sl | exact .own _ | exact .tag, by repeat' first | exact .refl _ | refine .same ?_ | refine .cons ?_, z + 1, (⟨#[48]⟩ : Str) ++ s, by rw [app_size, szl, Nat.add_comm]; rfl, by rw [str_app, hs, List.replicate_succ]; rfl, .inr ?_, rfl, rfl⟩
    rw [app_size, szl]; show 1 + _ ≤ _; omega
  all_goals have hcut : IntKind.i64.wrap ((s.size : Int) - 6) = ((s.size - 6 : Nat) : Int) := by rw [i64w (by omega)]; omega
  all_goals simp only [hcut, Int.toNat_natCast]
  any_goals omega
  any_goals (simp only [app_size, szl, ByteArray.size_extract, List.size_toArray, List.length_cons, List.length_nil]; omega)
  refine Sx.Fin.intro (by repeat' first | exact .refl _ | refine .same ?_ | refine .cons ?_) (bs (str_ext ?_))
  have hp := dec_parts hs (by show 7 ≤ s.size; omega) hz
  have hln : (Lib.decDigits (n / 10 ^ 6)).length = s.size - 6 := by
    have := congrArg List.length hp
    rw [List.length_append, lowD_len] at this
    have h5 : s.data.toList.length = s.size := rfl
    omega
  have e1 : (ByteArray.extract s 0 (s.size - 6)).data.toList = Lib.decDigits (n / 10 ^ 6) := by
    rw [ByteArray.data_extract, Array.toList_extract, List.extract_eq_take_drop, hp]
    simp [hln]
  have e2 : (ByteArray.extract s (s.size - 6) s.size).data.toList = lowD 6 n := by
    rw [ByteArray.data_extract, Array.toList_extract, List.extract_eq_take_drop, hp, ← hln, List.drop_left, List.take_of_length_le (by rw [lowD_len]; omega)]
  simp only [str_app, e1, e2]
  simp [decS]
end Go.Proofs.YtklncofkcfjkeaaGreatDoor
