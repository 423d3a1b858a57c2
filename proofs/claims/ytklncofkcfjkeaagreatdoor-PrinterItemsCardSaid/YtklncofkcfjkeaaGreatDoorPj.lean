
/- Texts of values. -/
import Derived.Test.YtklncofkcfjkeaaGreatDoorPi
set_option linter.unusedSimpArgs false
set_option linter.unusedVariables false
set_option maxRecDepth 100000
set_option maxHeartbeats 4000000
namespace Go.Proofs.YtklncofkcfjkeaaGreatDoor
open Go.Sx Go.Proofs
def boolS (n : Int) : Str := if n = 1 then ⟨#[116, 114, 117, 101]⟩ else ⟨#[102, 97, 108, 115, 101]⟩
def intS (n : Int) : Str := ⟨(Lib.decDigits n.toNat).toArray⟩
def valS (v : Val) : Str :=
  if v.kind = 1 then boolS v.n else if v.kind = 2 then intS v.n else if v.kind = 3 then decS v.n.toNat
  else if v.kind = 4 then ⟨#[34]⟩ ++ (v.s ++ ⟨#[34]⟩) else if v.kind = 5 then ⟨#[64]⟩ ++ v.s else ⟨#[110, 117, 108, 108]⟩
theorem fmtBool (n : Int) : (⟨(Lib.formatBool (decide (n = 1))).toArray⟩ : Str) = boolS n := by
  unfold boolS
  by_cases h : n = 1
  · rw [if_pos h, decide_eq_true h]; decide
  · rw [if_neg h, decide_eq_false h]; decide
theorem itoa_int {n : Int} (h : 0 ≤ n) : itoaS n = intS n := by
  obtain ⟨m, rfl⟩ : ∃ m : Nat, n = m := ⟨n.toNat, by omega⟩
  unfold itoaS intS
  rw [Lib.itoa_nonneg]; rfl
structure VOK (v : Val) : Prop where
  e : valErr v = 0
  n : 0 ≤ v.n
theorem VOK.kinds {v : Val} (h : VOK v) : 0 ≤ v.kind ∧ v.kind ≤ 5 ∧ v.n ≤ 1152921504606846976 ∧ v.s.size ≤ 64 := by
  have := h.e
  have h0 := h.n
  unfold valErr at this
  split at this
  · omega
  · rename_i hf
    have hf := Decidable.not_not.1 hf
    split at this
    · omega
    · rename_i hb
      have hs : v.kind ≤ 3 → v.s.size = 0 := fun h => by rw [hf.2.2.1 h]; rfl
      refine ⟨hf.1, hf.2.1, by omega, ?_⟩
      have := hf.2.1
      omega
theorem valS_size {v : Val} (h : VOK v) : (valS v).size ≤ 100 := by
  obtain ⟨h1, h2, h3, h4⟩ := h.kinds
  have h0 := h.n
  have hd : (Lib.decDigits v.n.toNat).length ≤ 21 := dd_len (by omega)
  have hq : (Lib.decDigits (v.n.toNat / 10 ^ 6)).length ≤ 21 := dd_len (by omega)
  unfold valS
  repeat' split
  · unfold boolS; split <;> decide
  · show (Lib.decDigits v.n.toNat).toArray.size ≤ 100
    rw [List.size_toArray]; omega
  · show (Lib.decDigits (v.n.toNat / 10 ^ 6) ++ 46 :: lowD 6 v.n.toNat).toArray.size ≤ 100
    rw [List.size_toArray, List.length_append, List.length_cons, lowD_len]; omega
  · (first | omega | (simp only [List.length_cons, List.length_nil, List.length_append, List.length_map, List.length_take, app_size, szl, str_len, List.size_toArray]; omega))
  · (first | omega | (simp only [List.length_cons, List.length_nil, List.length_append, List.length_map, List.length_take, app_size, szl, str_len, List.size_toArray]; omega))
  · decide
theorem null_ok (v : Val) : Pure Tryz.prog 119 [.agg v.cells] (sv ⟨#[110, 117, 108, 108]⟩) := by
  refine Pure.runk (fun _ => 0) Tryz.func119 comp119 era119 (Nat.le_of_ble_eq_true rfl) fun σ => ?_
  repeat' (first | exact .nil | refine .k0 ?_ | refine .k1 ?_ | refine .k2 ?_ | refine .k3 ?_ | refine .k4 ?_ | refine .k5 ?_ | refine .k6 ?_ | refine .k7 ?_ | refine .k8 ?_ | refine .k9 ?_ | (refine .cd ?_ ?_ <;> first | with_reducible exact tF | with_reducible exact fT | (intro hc; first | exact kf hc (by assumption) | exact kt hc (by assumption) | skip)) | refine .r1 ?_ ?_ | (refine .l1 ?_; intro b) | (refine .m1 ?_ ?_; intro b) | (refine .m2 ?_ ?_; intro hlen) | (refine .m3 ?_ ?_; intro hlen) | refine .t1 ?_ ?_ ?_ | refine .t2 ?_ ?_ ?_ | refine .t3 ?_ ?_ ?_ | refine .t4 ?_ ?_ ?_ | (refine .l2 ?_; intro b) | refine .u1 ?_ ?_ ?_ (fun b u c => ?_) | refine .u2 ?_ ?_ ?_ (fun b u c => ?_) | refine .an rfl (by intro hob; first | exact formatBool_ok _ | exact itoa_ok _ (by first | omega | (simp only [BL] at *; omega)) | exact dec_ok v.n.toNat (by first | omega | (simp only [BL] at *; omega))) ?_ ?_ | refine .t5 ?_ ?_ ?_ | refine .t6 ?_ ?_ ?_ | refine .t7 ?_ ?_ ?_ | refine .r2 ?_ ?_ | refine .r3 ?_ ?_ | refine .r4 ?_ ?_ | refine .r5 ?_ ?_ | (refine .l3 ?_; intro b) | refine .r6 ?_ ?_ | refine .r7 ?_ ?_ | refine .r8 ?_ ?_ | refine .r9 ?_ ?_ | refine .ra ?_ ?_ | (show List.all _ _ = true; rfl) | (show (_ : Nat) = _; rfl))
  try any_goals ((intro hob; first | (simp_all; done) | (simp only [BL] at *; first | (simp_all; done) | omega)))
  all_goals (try simp only [BL] at *)
  · exact Sx.Fin.intro (by repeat' first | exact .refl _ | refine .same ?_ | refine .cons ?_) rfl
theorem boolean_ok (v : Val) : Pure Tryz.prog 120 [.agg v.cells] (sv (boolS v.n)) := by
  refine Pure.runk (fun _ => 0) Tryz.func120 comp120 era120 (Nat.le_of_ble_eq_true rfl) fun σ => ?_
  repeat' (first | exact .nil | refine .k0 ?_ | refine .k1 ?_ | refine .k2 ?_ | refine .k3 ?_ | refine .k4 ?_ | refine .k5 ?_ | refine .k6 ?_ | refine .k7 ?_ | refine .k8 ?_ | refine .k9 ?_ | (refine .cd ?_ ?_ <;> first | with_reducible exact tF | with_reducible exact fT | (intro hc; first | exact kf hc (by assumption) | exact kt hc (by assumption) | skip)) | refine .r1 ?_ ?_ | (refine .l1 ?_; intro b) | (refine .m1 ?_ ?_; intro b) | (refine .m2 ?_ ?_; intro hlen) | (refine .m3 ?_ ?_; intro hlen) | refine .t1 ?_ ?_ ?_ | refine .t2 ?_ ?_ ?_ | refine .t3 ?_ ?_ ?_ | refine .t4 ?_ ?_ ?_ | (refine .l2 ?_; intro b) | refine .u1 ?_ ?_ ?_ (fun b u c => ?_) | refine .u2 ?_ ?_ ?_ (fun b u c => ?_) | refine .an rfl (by intro hob; first | exact formatBool_ok _ | exact itoa_ok _ (by first | omega | (simp only [BL] at *; omega)) | exact dec_ok v.n.toNat (by first | omega | (simp only [BL] at *; omega))) ?_ ?_ | refine .t5 ?_ ?_ ?_ | refine .t6 ?_ ?_ ?_ | refine .t7 ?_ ?_ ?_ | refine .r2 ?_ ?_ | refine .r3 ?_ ?_ | refine .r4 ?_ ?_ | refine .r5 ?_ ?_ | (refine .l3 ?_; intro b) | refine .r6 ?_ ?_ | refine .r7 ?_ ?_ | refine .r8 ?_ ?_ | refine .r9 ?_ ?_ | refine .ra ?_ ?_ | (show List.all _ _ = true; rfl) | (show (_ : Nat) = _; rfl))
  try any_goals ((intro hob; first | (simp_all; done) | (simp only [BL] at *; first | (simp_all; done) | omega)))
  all_goals (try simp only [BL] at *)
  · exact Sx.Fin.intro (by repeat' first | exact .refl _ | refine .same ?_ | refine .cons ?_) (bs (fmtBool v.n))
theorem integer_ok (v : Val) (h : VOK v) : Pure Tryz.prog 121 [.agg v.cells] (sv (intS v.n)) := by
  have hk := h.kinds
  have h0 := h.n
  refine Pure.runk (fun _ => 0) Tryz.func121 comp121 era121 (Nat.le_of_ble_eq_true rfl) fun σ => ?_
  repeat' (first | exact .nil | refine .k0 ?_ | refine .k1 ?_ | refine .k2 ?_ | refine .k3 ?_ | refine .k4 ?_ | refine .k5 ?_ | refine .k6 ?_ | refine .k7 ?_ | refine .k8 ?_ | refine .k9 ?_ | (refine .cd ?_ ?_ <;> first | with_reducible exact tF | with_reducible exact fT | (intro hc; first | exact kf hc (by assumption) | exact kt hc (by assumption) | skip)) | refine .r1 ?_ ?_ | (refine .l1 ?_; intro b) | (refine .m1 ?_ ?_; intro b) | (refine .m2 ?_ ?_; intro hlen) | (refine .m3 ?_ ?_; intro hlen) | refine .t1 ?_ ?_ ?_ | refine .t2 ?_ ?_ ?_ | refine .t3 ?_ ?_ ?_ | refine .t4 ?_ ?_ ?_ | (refine .l2 ?_; intro b) | refine .u1 ?_ ?_ ?_ (fun b u c => ?_) | refine .u2 ?_ ?_ ?_ (fun b u c => ?_) | refine .an rfl (by intro hob; first | exact formatBool_ok _ | exact itoa_ok _ (by first | omega | (simp only [BL] at *; omega)) | exact dec_ok v.n.toNat (by first | omega | (simp only [BL] at *; omega))) ?_ ?_ | refine .t5 ?_ ?_ ?_ | refine .t6 ?_ ?_ ?_ | refine .t7 ?_ ?_ ?_ | refine .r2 ?_ ?_ | refine .r3 ?_ ?_ | refine .r4 ?_ ?_ | refine .r5 ?_ ?_ | (refine .l3 ?_; intro b) | refine .r6 ?_ ?_ | refine .r7 ?_ ?_ | refine .r8 ?_ ?_ | refine .r9 ?_ ?_ | refine .ra ?_ ?_ | (show List.all _ _ = true; rfl) | (show (_ : Nat) = _; rfl))
  try any_goals ((intro hob; first | (simp_all; done) | (simp only [BL] at *; first | (simp_all; done) | omega)))
  all_goals (try simp only [BL] at *)
  · exact Sx.Fin.intro (by repeat' first | exact .refl _ | refine .same ?_ | refine .cons ?_) (bs (itoa_int h0))
theorem decimal_ok (v : Val) (h : VOK v) : Pure Tryz.prog 122 [.agg v.cells] (sv (decS v.n.toNat)) := by
  have hk := h.kinds
  have h0 := h.n
  have hd := dec_ok v.n.toNat (by omega)
  rw [show ((v.n.toNat : Nat) : Int) = v.n by omega] at hd
  refine Pure.runk (fun _ => 0) Tryz.func122 comp122 era122 (Nat.le_of_ble_eq_true rfl) fun σ => ?_
  repeat' (first | exact .nil | refine .k0 ?_ | refine .k1 ?_ | refine .k2 ?_ | refine .k3 ?_ | refine .k4 ?_ | refine .k5 ?_ | refine .k6 ?_ | refine .k7 ?_ | refine .k8 ?_ | refine .k9 ?_ | (refine .cd ?_ ?_ <;> first | with_reducible exact tF | with_reducible exact fT | (intro hc; first | exact kf hc (by assumption) | exact kt hc (by assumption) | skip)) | refine .r1 ?_ ?_ | (refine .l1 ?_; intro b) | (refine .m1 ?_ ?_; intro b) | (refine .m2 ?_ ?_; intro hlen) | (refine .m3 ?_ ?_; intro hlen) | refine .t1 ?_ ?_ ?_ | refine .t2 ?_ ?_ ?_ | refine .t3 ?_ ?_ ?_ | refine .t4 ?_ ?_ ?_ | (refine .l2 ?_; intro b) | refine .u1 ?_ ?_ ?_ (fun b u c => ?_) | refine .u2 ?_ ?_ ?_ (fun b u c => ?_) | refine .an rfl (by intro hob; first | exact hd) ?_ ?_ | refine .t5 ?_ ?_ ?_ | refine .t6 ?_ ?_ ?_ | refine .t7 ?_ ?_ ?_ | refine .r2 ?_ ?_ | refine .r3 ?_ ?_ | refine .r4 ?_ ?_ | refine .r5 ?_ ?_ | (refine .l3 ?_; intro b) | refine .r6 ?_ ?_ | refine .r7 ?_ ?_ | refine .r8 ?_ ?_ | refine .r9 ?_ ?_ | refine .ra ?_ ?_ | (show List.all _ _ = true; rfl) | (show (_ : Nat) = _; rfl))
  try any_goals ((intro hob; first | (simp_all; done) | (simp only [BL] at *; first | (simp_all; done) | omega)))
  all_goals (try simp only [BL] at *)
  · exact Sx.Fin.intro (by repeat' first | exact .refl _ | refine .same ?_ | refine .cons ?_) rfl
theorem textV_ok (v : Val) (h : VOK v) : Pure Tryz.prog 123 [.agg v.cells] (sv (⟨#[34]⟩ ++ (v.s ++ ⟨#[34]⟩))) := by
  have hk := h.kinds
  refine Pure.runk (fun _ => 0) Tryz.func123 comp123 era123 (Nat.le_of_ble_eq_true rfl) fun σ => ?_
  repeat' (first | exact .nil | refine .k0 ?_ | refine .k1 ?_ | refine .k2 ?_ | refine .k3 ?_ | refine .k4 ?_ | refine .k5 ?_ | refine .k6 ?_ | refine .k7 ?_ | refine .k8 ?_ | refine .k9 ?_ | (refine .cd ?_ ?_ <;> first | with_reducible exact tF | with_reducible exact fT | (intro hc; first | exact kf hc (by assumption) | exact kt hc (by assumption) | skip)) | refine .r1 ?_ ?_ | (refine .l1 ?_; intro b) | (refine .m1 ?_ ?_; intro b) | (refine .m2 ?_ ?_; intro hlen) | (refine .m3 ?_ ?_; intro hlen) | refine .t1 ?_ ?_ ?_ | refine .t2 ?_ ?_ ?_ | refine .t3 ?_ ?_ ?_ | refine .t4 ?_ ?_ ?_ | (refine .l2 ?_; intro b) | refine .u1 ?_ ?_ ?_ (fun b u c => ?_) | refine .u2 ?_ ?_ ?_ (fun b u c => ?_) | refine .an rfl (by intro hob; first | exact hd) ?_ ?_ | refine .t5 ?_ ?_ ?_ | refine .t6 ?_ ?_ ?_ | refine .t7 ?_ ?_ ?_ | refine .r2 ?_ ?_ | refine .r3 ?_ ?_ | refine .r4 ?_ ?_ | refine .r5 ?_ ?_ | (refine .l3 ?_; intro b) | refine .r6 ?_ ?_ | refine .r7 ?_ ?_ | refine .r8 ?_ ?_ | refine .r9 ?_ ?_ | refine .ra ?_ ?_ | (show List.all _ _ = true; rfl) | (show (_ : Nat) = _; rfl))
  try any_goals ((intro hob; first | (simp_all; done) | (simp only [BL] at *; first | (simp_all; done) | omega)))
  all_goals (try simp only [BL] at *)
  any_goals (first | omega | (simp only [List.length_cons, List.length_nil, List.length_append, List.length_map, List.length_take, app_size, szl, str_len, List.size_toArray]; omega))
  · exact Sx.Fin.intro (by repeat' first | exact .refl _ | refine .same ?_ | refine .cons ?_) (bs (app_assoc _ _ _))
theorem keyV_ok (v : Val) (h : VOK v) : Pure Tryz.prog 124 [.agg v.cells] (sv (⟨#[64]⟩ ++ v.s)) := by
  have hk := h.kinds
  refine Pure.runk (fun _ => 0) Tryz.func124 comp124 era124 (Nat.le_of_ble_eq_true rfl) fun σ => ?_
  repeat' (first | exact .nil | refine .k0 ?_ | refine .k1 ?_ | refine .k2 ?_ | refine .k3 ?_ | refine .k4 ?_ | refine .k5 ?_ | refine .k6 ?_ | refine .k7 ?_ | refine .k8 ?_ | refine .k9 ?_ | (refine .cd ?_ ?_ <;> first | with_reducible exact tF | with_reducible exact fT | (intro hc; first | exact kf hc (by assumption) | exact kt hc (by assumption) | skip)) | refine .r1 ?_ ?_ | (refine .l1 ?_; intro b) | (refine .m1 ?_ ?_; intro b) | (refine .m2 ?_ ?_; intro hlen) | (refine .m3 ?_ ?_; intro hlen) | refine .t1 ?_ ?_ ?_ | refine .t2 ?_ ?_ ?_ | refine .t3 ?_ ?_ ?_ | refine .t4 ?_ ?_ ?_ | (refine .l2 ?_; intro b) | refine .u1 ?_ ?_ ?_ (fun b u c => ?_) | refine .u2 ?_ ?_ ?_ (fun b u c => ?_) | refine .an rfl (by intro hob; first | exact hd) ?_ ?_ | refine .t5 ?_ ?_ ?_ | refine .t6 ?_ ?_ ?_ | refine .t7 ?_ ?_ ?_ | refine .r2 ?_ ?_ | refine .r3 ?_ ?_ | refine .r4 ?_ ?_ | refine .r5 ?_ ?_ | (refine .l3 ?_; intro b) | refine .r6 ?_ ?_ | refine .r7 ?_ ?_ | refine .r8 ?_ ?_ | refine .r9 ?_ ?_ | refine .ra ?_ ?_ | (show List.all _ _ = true; rfl) | (show (_ : Nat) = _; rfl))
  try any_goals ((intro hob; first | (simp_all; done) | (simp only [BL] at *; first | (simp_all; done) | omega)))
  all_goals (try simp only [BL] at *)
  any_goals (first | omega | (simp only [List.length_cons, List.length_nil, List.length_append, List.length_map, List.length_take, app_size, szl, str_len, List.size_toArray]; omega))
  · exact Sx.Fin.intro (by repeat' first | exact .refl _ | refine .same ?_ | refine .cons ?_) rfl
theorem Wk.vagg (vs : Array Value) : Wk (.v (.agg vs)) (.agg (vs.toList.map .v)) := fun M x h => by
  obtain rfl := h.of_v
  have := R.agg (M := M) (vs.toList.map .v) vs.toList (by simp) (fun i h1 h2 => by simp only [List.getElem_map]; exact .v _)
  simpa using this
theorem format_ok (v : Val) (h : VOK v) : Pure Tryz.prog 93 [.agg v.cells] (sv (valS v)) := by
  have hk := h.kinds
  have he := h.e
  obtain ⟨k, n, s⟩ := v
  have hk' : k = 0 ∨ k = 1 ∨ k = 2 ∨ k = 3 ∨ k = 4 ∨ k = 5 := by
    have h1 := hk.1
    have h2 := hk.2.1
    simp only at h1 h2
    omega
  rcases hk' with rfl | rfl | rfl | rfl | rfl | rfl
  all_goals refine Pure.runk (fun _ => 0) Tryz.func93 comp93 era93 (Nat.le_of_ble_eq_true rfl) fun σ => ?_
  repeat' (first | exact .nil | refine .k0 ?_ | refine .k1 ?_ | refine .k2 ?_ | refine .k3 ?_ | refine .k4 ?_ | refine .k5 ?_ | refine .k6 ?_ | refine .k7 ?_ | refine .k8 ?_ | refine .k9 ?_ | (refine .cd ?_ ?_ <;> first | with_reducible exact tF | with_reducible exact fT | (intro hc; first | exact kf hc (by assumption) | exact kt hc (by assumption) | skip)) | refine .r1 ?_ ?_ | (refine .l1 ?_; intro b) | (refine .m1 ?_ ?_; intro b) | (refine .m2 ?_ ?_; intro hlen) | (refine .m3 ?_ ?_; intro hlen) | refine .t1 ?_ ?_ ?_ | refine .t2 ?_ ?_ ?_ | refine .t3 ?_ ?_ ?_ | refine .t4 ?_ ?_ ?_ | (refine .l2 ?_; intro b) | refine .u1 ?_ ?_ ?_ (fun b u c => ?_) | refine .u2 ?_ ?_ ?_ (fun b u c => ?_) | refine .an rfl (by intro hob; first | exact value_ok ⟨_, n, s⟩ | exact (null_ok ⟨_, n, s⟩).wk (WkL.cons (Wk.vagg _) WkL.nil) | exact (boolean_ok ⟨_, n, s⟩).wk (WkL.cons (Wk.vagg _) WkL.nil) | exact (integer_ok _ h).wk (WkL.cons (Wk.vagg _) WkL.nil) | exact (decimal_ok _ h).wk (WkL.cons (Wk.vagg _) WkL.nil) | exact (textV_ok _ h).wk (WkL.cons (Wk.vagg _) WkL.nil) | exact (keyV_ok _ h).wk (WkL.cons (Wk.vagg _) WkL.nil)) ?_ ?_ | refine .t5 ?_ ?_ ?_ | refine .t6 ?_ ?_ ?_ | refine .t7 ?_ ?_ ?_ | refine .r2 ?_ ?_ | refine .r3 ?_ ?_ | refine .r4 ?_ ?_ | refine .r5 ?_ ?_ | (refine .l3 ?_; intro b) | refine .r6 ?_ ?_ | refine .r7 ?_ ?_ | refine .r8 ?_ ?_ | refine .r9 ?_ ?_ | refine .ra ?_ ?_ | (show List.all _ _ = true; rfl) | (show (_ : Nat) = _; rfl))
  try any_goals ((intro hob; first | (simp_all; done) | (simp only [BL] at *; first | (simp_all; done) | omega)))
  all_goals (try simp only [BL] at *)
  all_goals try (exfalso; exact hc he)
  all_goals exact Sx.Fin.intro (by repeat' first | exact .refl _ | refine .same ?_ | refine .cons ?_) rfl
theorem formatR_ok (v : Val) (h : VOK v) : Pure Tryz.prog 97 [.agg v.cells] (sv (valS v)) := by
  have hk := h.kinds
  have h0 := h.n
  have he := h.e
  have hd := dec02_ok v.n.toNat (by omega)
  have hd2 := digits05_ok v.n.toNat (by omega)
  rw [show ((v.n.toNat : Nat) : Int) = v.n by omega] at hd hd2
  refine Pure.runk (fun _ => 0) Tryz.func97 comp97 era97 (Nat.le_of_ble_eq_true rfl) fun σ => ?_
  repeat' (first | exact .nil | refine .k0 ?_ | refine .k1 ?_ | refine .k2 ?_ | refine .k3 ?_ | refine .k4 ?_ | refine .k5 ?_ | refine .k6 ?_ | refine .k7 ?_ | refine .k8 ?_ | refine .k9 ?_ | (refine .cd ?_ ?_ <;> first | with_reducible exact tF | with_reducible exact fT | (intro hc; first | exact kf hc (by assumption) | exact kt hc (by assumption) | skip)) | refine .r1 ?_ ?_ | (refine .l1 ?_; intro b) | (refine .m1 ?_ ?_; intro b) | (refine .m2 ?_ ?_; intro hlen) | (refine .m3 ?_ ?_; intro hlen) | refine .t1 ?_ ?_ ?_ | refine .t2 ?_ ?_ ?_ | refine .t3 ?_ ?_ ?_ | refine .t4 ?_ ?_ ?_ | (refine .l2 ?_; intro b) | refine .u1 ?_ ?_ ?_ (fun b u c => ?_) | refine .u2 ?_ ?_ ?_ (fun b u c => ?_) | refine .an rfl (by intro hob; first | exact validR_ok v | exact hd | exact hd2) ?_ ?_ | refine .t5 ?_ ?_ ?_ | refine .t6 ?_ ?_ ?_ | refine .t7 ?_ ?_ ?_ | refine .r2 ?_ ?_ | refine .r3 ?_ ?_ | refine .r4 ?_ ?_ | refine .r5 ?_ ?_ | (refine .l3 ?_; intro b) | refine .r6 ?_ ?_ | refine .r7 ?_ ?_ | refine .r8 ?_ ?_ | refine .r9 ?_ ?_ | refine .ra ?_ ?_ | (show List.all _ _ = true; rfl) | (show (_ : Nat) = _; rfl))
  try any_goals ((intro hob; first | (simp_all; done) | (simp only [BL] at *; first | (simp_all; done) | omega)))
  all_goals (try simp only [BL] at *)
  all_goals try (exfalso; first | omega | exact hc he)
  any_goals (first | omega | (simp only [List.length_cons, List.length_nil, List.length_append, List.length_map, List.length_take, app_size, szl, str_len, List.size_toArray]; omega))
  all_goals (refine Sx.Fin.intro (by repeat' first | exact .refl _ | refine .same ?_ | refine .cons ?_) (bs ?_); simp [valS, boolS, intS, app_assoc, *]; done)
end Go.Proofs.YtklncofkcfjkeaaGreatDoor
