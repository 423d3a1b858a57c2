/- Texts of expressions: the walk through the printer. -/
import Derived.Test.YtklncofkcfjkeaaGreatDoorPk
set_option linter.unusedSimpArgs false
set_option linter.unusedVariables false
set_option maxRecDepth 100000
set_option maxHeartbeats 4000000
namespace Go.Proofs.YtklncofkcfjkeaaGreatDoor
open Go.Sx Go.Proofs
theorem rank_ok (x : Ex) : Pure Tryz.prog 96 [.agg x.row] (iv (rank x)) := by
  rw [Ex.row_eq x]
  refine Pure.runk (fun _ => 0) Tryz.func96 comp96 era96 (Nat.le_of_ble_eq_true rfl) fun σ => ?_
  repeat' (first | exact .nil | refine .k0 ?_ | refine .k1 ?_ | refine .k2 ?_ | refine .k3 ?_ | refine .k4 ?_ | refine .k5 ?_ | refine .k6 ?_ | refine .k7 ?_ | refine .k8 ?_ | refine .k9 ?_ | (refine .cd ?_ ?_ <;> first | with_reducible exact tF | with_reducible exact fT | (intro hc; first | exact kf hc (by assumption) | exact kt hc (by assumption) | skip)) | refine .r1 ?_ ?_ | (refine .l1 ?_; intro b) | (refine .m1 ?_ ?_; intro b) | (refine .m2 ?_ ?_; intro hlen) | (refine .m3 ?_ ?_; intro hlen) | refine .t1 ?_ ?_ ?_ | refine .t2 ?_ ?_ ?_ | refine .t3 ?_ ?_ ?_ | refine .t4 ?_ ?_ ?_ | (refine .l2 ?_; intro b) | refine .u1 ?_ ?_ ?_ (fun b u c => ?_) | refine .u2 ?_ ?_ ?_ (fun b u c => ?_) | refine .an rfl (by intro hob; first | fail) ?_ ?_ | refine .t5 ?_ ?_ ?_ | refine .t6 ?_ ?_ ?_ | refine .t7 ?_ ?_ ?_ | refine .r2 ?_ ?_ | refine .r3 ?_ ?_ | refine .r4 ?_ ?_ | refine .r5 ?_ ?_ | (refine .l3 ?_; intro b) | refine .r6 ?_ ?_ | refine .r7 ?_ ?_ | refine .r8 ?_ ?_ | refine .r9 ?_ ?_ | refine .ra ?_ ?_ | (show List.all _ _ = true; rfl) | (show (_ : Nat) = _; rfl))
  try any_goals ((intro hob; first | (simp_all; done) | (simp only [BL] at *; first | (simp_all; done) | omega)))
  all_goals (try simp only [BL] at *)
  all_goals (refine Sx.Fin.intro (by repeat' first | exact .refl _ | refine .same ?_ | refine .cons ?_) (bi ?_); unfold rank; grind)
def opR (k : Int) (s : Str) : Int :=
  if s = ⟨#[111, 114]⟩ then 2 else if s = ⟨#[97, 110, 100]⟩ then 3 else if s = ⟨#[110, 111, 116]⟩ then 4
  else if s = ⟨#[61, 61]⟩ ∨ s = ⟨#[33, 61]⟩ ∨ s = ⟨#[60]⟩ ∨ s = ⟨#[60, 61]⟩ then 5 else if s = ⟨#[42]⟩ ∨ s = ⟨#[47]⟩ then 7
  else if s = ⟨#[110, 117, 108, 108]⟩ then 9 else if k = 6 then 8 else 6
theorem operatorR_ok (k : Int) (s : Str) : Pure Tryz.prog 127 [iv k, sv s] (iv (opR k s)) := by
  refine Pure.runk (fun _ => 0) Tryz.func127 comp127 era127 (Nat.le_of_ble_eq_true rfl) fun σ => ?_
  repeat' (first | exact .nil | refine .k0 ?_ | refine .k1 ?_ | refine .k2 ?_ | refine .k3 ?_ | refine .k4 ?_ | refine .k5 ?_ | refine .k6 ?_ | refine .k7 ?_ | refine .k8 ?_ | refine .k9 ?_ | (refine .cd ?_ ?_ <;> first | with_reducible exact tF | with_reducible exact fT | (intro hc; first | exact kf hc (by assumption) | exact kt hc (by assumption) | skip)) | refine .r1 ?_ ?_ | (refine .l1 ?_; intro b) | (refine .m1 ?_ ?_; intro b) | (refine .m2 ?_ ?_; intro hlen) | (refine .m3 ?_ ?_; intro hlen) | refine .t1 ?_ ?_ ?_ | refine .t2 ?_ ?_ ?_ | refine .t3 ?_ ?_ ?_ | refine .t4 ?_ ?_ ?_ | (refine .l2 ?_; intro b) | refine .u1 ?_ ?_ ?_ (fun b u c => ?_) | refine .u2 ?_ ?_ ?_ (fun b u c => ?_) | refine .an rfl (by intro hob; first | fail) ?_ ?_ | refine .t5 ?_ ?_ ?_ | refine .t6 ?_ ?_ ?_ | refine .t7 ?_ ?_ ?_ | refine .r2 ?_ ?_ | refine .r3 ?_ ?_ | refine .r4 ?_ ?_ | refine .r5 ?_ ?_ | (refine .l3 ?_; intro b) | refine .r6 ?_ ?_ | refine .r7 ?_ ?_ | refine .r8 ?_ ?_ | refine .r9 ?_ ?_ | refine .ra ?_ ?_ | (show List.all _ _ = true; rfl) | (show (_ : Nat) = _; rfl))
  try any_goals ((intro hob; first | (simp_all; done) | (simp only [BL] at *; first | (simp_all; done) | omega)))
  all_goals (try simp only [BL] at *)
  all_goals (refine Sx.Fin.intro (by repeat' first | exact .refl _ | refine .same ?_ | refine .cons ?_) (bi ?_); simp [opR, *]; done)
structure OpOK (x : Ex) : Prop where
  u : x.kind = 6 → ∃ y ∈ unL, x.op = y
  b : x.kind = 7 → ∃ y ∈ binL, x.op = y
theorem rank_op {x : Ex} (h : OpOK x) (hk : x.kind = 6 ∨ x.kind = 7) : opR x.kind x.op = rank x := by
  rcases hk with hk | hk
  · obtain ⟨y, hy, ho⟩ := h.u hk
    unfold rank
    rw [if_neg (by omega), if_neg (by omega), if_pos hk, hk, ho]
    clear ho
    revert y
    decide
  · obtain ⟨y, hy, ho⟩ := h.b hk
    unfold rank
    rw [if_neg (by omega), if_neg (by omega), if_neg (by omega), if_pos hk, hk, ho]
    clear ho
    revert y
    decide
theorem opOK_of {x : Ex} {ins : Bool} (h : form ins x = true) : OpOK x := by
  have hb := (FOK.of h).nb
  unfold nodeB at hb
  constructor
  · intro hk
    rw [if_neg (by omega), if_neg (by omega), if_neg (by omega), if_neg (by omega), if_pos hk] at hb; exact hb.2
  · intro hk
    rw [if_neg (by omega), if_neg (by omega), if_neg (by omega), if_neg (by omega), if_neg (by omega), if_pos hk] at hb; exact hb.2
theorem rankR_ok (x : Ex) (h : OpOK x) : Pure Tryz.prog 99 [.agg x.row] (iv (rank x)) := by
  have h1 := @rank_op x h
  rw [Ex.row_eq x]
  refine Pure.runk (fun _ => 0) Tryz.func99 comp99 era99 (Nat.le_of_ble_eq_true rfl) fun σ => ?_
  repeat' (first | exact .nil | refine .k0 ?_ | refine .k1 ?_ | refine .k2 ?_ | refine .k3 ?_ | refine .k4 ?_ | refine .k5 ?_ | refine .k6 ?_ | refine .k7 ?_ | refine .k8 ?_ | refine .k9 ?_ | (refine .cd ?_ ?_ <;> first | with_reducible exact tF | with_reducible exact fT | (intro hc; first | exact kf hc (by assumption) | exact kt hc (by assumption) | skip)) | refine .r1 ?_ ?_ | (refine .l1 ?_; intro b) | (refine .m1 ?_ ?_; intro b) | (refine .m2 ?_ ?_; intro hlen) | (refine .m3 ?_ ?_; intro hlen) | refine .t1 ?_ ?_ ?_ | refine .t2 ?_ ?_ ?_ | refine .t3 ?_ ?_ ?_ | refine .t4 ?_ ?_ ?_ | (refine .l2 ?_; intro b) | refine .u1 ?_ ?_ ?_ (fun b u c => ?_) | refine .u2 ?_ ?_ ?_ (fun b u c => ?_) | refine .an rfl (by intro hob; first | exact operatorR_ok _ _) ?_ ?_ | refine .t5 ?_ ?_ ?_ | refine .t6 ?_ ?_ ?_ | refine .t7 ?_ ?_ ?_ | refine .r2 ?_ ?_ | refine .r3 ?_ ?_ | refine .r4 ?_ ?_ | refine .r5 ?_ ?_ | (refine .l3 ?_; intro b) | refine .r6 ?_ ?_ | refine .r7 ?_ ?_ | refine .r8 ?_ ?_ | refine .r9 ?_ ?_ | refine .ra ?_ ?_ | (show List.all _ _ = true; rfl) | (show (_ : Nat) = _; rfl))
  try any_goals ((intro hob; first | (simp_all; done) | (simp only [BL] at *; first | (simp_all; done) | omega)))
  all_goals (try simp only [BL] at *)
  all_goals (refine Sx.Fin.intro (by repeat' first | exact .refl _ | refine .same ?_ | refine .cons ?_) (bi ?_); first | (rw [h1 (by omega)]; done) | (unfold rank; simp [*]; done) | (unfold rank; grind))
theorem window_ok (x : Ex) (h : winOK x.win) : Pure Tryz.prog 95 [.agg x.row] (sv (winT x.win)) := by
  have hw : 0 ≤ x.win.size ∧ x.win.size ≤ 1099511627776 := by unfold winOK at h; omega
  have hz := itoa_size x.win.size (by omega)
  have hi := itoa_int hw.1
  rw [Ex.row_eq x]
  refine Pure.runk (fun _ => 0) Tryz.func95 comp95 era95 (Nat.le_of_ble_eq_true rfl) fun σ => ?_
  repeat' (first | exact .nil | refine .k0 ?_ | refine .k1 ?_ | refine .k2 ?_ | refine .k3 ?_ | refine .k4 ?_ | refine .k5 ?_ | refine .k6 ?_ | refine .k7 ?_ | refine .k8 ?_ | refine .k9 ?_ | (refine .cd ?_ ?_ <;> first | with_reducible exact tF | with_reducible exact fT | (intro hc; first | exact kf hc (by assumption) | exact kt hc (by assumption) | skip)) | refine .r1 ?_ ?_ | (refine .l1 ?_; intro b) | (refine .m1 ?_ ?_; intro b) | (refine .m2 ?_ ?_; intro hlen) | (refine .m3 ?_ ?_; intro hlen) | refine .t1 ?_ ?_ ?_ | refine .t2 ?_ ?_ ?_ | refine .t3 ?_ ?_ ?_ | refine .t4 ?_ ?_ ?_ | (refine .l2 ?_; intro b) | refine .u1 ?_ ?_ ?_ (fun b u c => ?_) | refine .u2 ?_ ?_ ?_ (fun b u c => ?_) | refine .an rfl (by intro hob; first | exact itoa_ok _ (by first | omega | (simp only [BL] at *; omega)) | exact join_ok' _ rfl (Nat.le_of_ble_eq_true rfl) (by simp only [lenS, szl, List.size_toArray, List.length_cons, List.length_nil]; omega) | exact hd2) ?_ ?_ | refine .t5 ?_ ?_ ?_ | refine .t6 ?_ ?_ ?_ | refine .t7 ?_ ?_ ?_ | refine .r2 ?_ ?_ | refine .r3 ?_ ?_ | refine .r4 ?_ ?_ | refine .r5 ?_ ?_ | (refine .l3 ?_; intro b) | refine .r6 ?_ ?_ | refine .r7 ?_ ?_ | refine .r8 ?_ ?_ | refine .r9 ?_ ?_ | refine .ra ?_ ?_ | (show List.all _ _ = true; rfl) | (show (_ : Nat) = _; rfl))
  try any_goals ((intro hob; first | (simp_all; done) | (simp only [BL] at *; first | (simp_all; done) | omega)))
  all_goals (try simp only [BL] at *)
  any_goals (first | omega | (simp only [List.length_cons, List.length_nil, List.length_append, List.length_map, List.length_take, app_size, szl, str_len, List.size_toArray]; omega))
  all_goals (refine Sx.Fin.intro (by repeat' first | exact .refl _ | refine .same ?_ | refine .cons ?_) (bs ?_); simp [winT, catS, app_nil, *]; done)
theorem windowR11_ok (w : Win) (h : winOK w) : Pure Tryz.prog 98 [.agg w.cells] (sv (winT w)) := by
  have hw : 0 ≤ w.size ∧ w.size ≤ 1099511627776 := by unfold winOK at h; omega
  have hd2 := digits05_ok w.size.toNat (by omega)
  rw [show ((w.size.toNat : Nat) : Int) = w.size by omega] at hd2
  have hz : (Lib.decDigits w.size.toNat).length ≤ 21 := dd_len (by omega)
  refine Pure.runk (fun _ => 0) Tryz.func98 comp98 era98 (Nat.le_of_ble_eq_true rfl) fun σ => ?_
  repeat' (first | exact .nil | refine .k0 ?_ | refine .k1 ?_ | refine .k2 ?_ | refine .k3 ?_ | refine .k4 ?_ | refine .k5 ?_ | refine .k6 ?_ | refine .k7 ?_ | refine .k8 ?_ | refine .k9 ?_ | (refine .cd ?_ ?_ <;> first | with_reducible exact tF | with_reducible exact fT | (intro hc; first | exact kf hc (by assumption) | exact kt hc (by assumption) | skip)) | refine .r1 ?_ ?_ | (refine .l1 ?_; intro b) | (refine .m1 ?_ ?_; intro b) | (refine .m2 ?_ ?_; intro hlen) | (refine .m3 ?_ ?_; intro hlen) | refine .t1 ?_ ?_ ?_ | refine .t2 ?_ ?_ ?_ | refine .t3 ?_ ?_ ?_ | refine .t4 ?_ ?_ ?_ | (refine .l2 ?_; intro b) | refine .u1 ?_ ?_ ?_ (fun b u c => ?_) | refine .u2 ?_ ?_ ?_ (fun b u c => ?_) | refine .an rfl (by intro hob; first | exact itoa_ok _ (by first | omega | (simp only [BL] at *; omega)) | exact join_ok' _ rfl (Nat.le_of_ble_eq_true rfl) (by simp only [lenS, szl, List.size_toArray, List.length_cons, List.length_nil]; omega) | exact hd2) ?_ ?_ | refine .t5 ?_ ?_ ?_ | refine .t6 ?_ ?_ ?_ | refine .t7 ?_ ?_ ?_ | refine .r2 ?_ ?_ | refine .r3 ?_ ?_ | refine .r4 ?_ ?_ | refine .r5 ?_ ?_ | (refine .l3 ?_; intro b) | refine .r6 ?_ ?_ | refine .r7 ?_ ?_ | refine .r8 ?_ ?_ | refine .r9 ?_ ?_ | refine .ra ?_ ?_ | (show List.all _ _ = true; rfl) | (show (_ : Nat) = _; rfl))
  try any_goals ((intro hob; first | (simp_all; done) | (simp only [BL] at *; first | (simp_all; done) | omega)))
  all_goals (try simp only [BL] at *)
  any_goals (first | omega | (simp only [List.length_cons, List.length_nil, List.length_append, List.length_map, List.length_take, app_size, szl, str_len, List.size_toArray]; omega))
  all_goals (refine Sx.Fin.intro (by repeat' first | exact .refl _ | refine .same ?_ | refine .cons ?_) (bs ?_); simp [winT, intS, *]; done)
theorem literal_ok (x : Ex) (h : litOK x) : Pure Tryz.prog 56 [.agg x.row] (sv (litT x)) := by
  have hv : VOK x.val := ⟨h.1, h.2.1⟩
  have hk := hv.kinds
  have hs := valS_size hv
  obtain ⟨hl, hu, ho⟩ := tyErr_unit h.2.2.1
  have hl : x.unit.length ≤ 4 := hl
  have hu : ∀ f ∈ x.unit, FacOK f := hu
  have ho : x.name.size ≤ 24 := ho
  have hz := unitT_size hu hl
  rw [Ex.row_eq x]
  refine Pure.runk (fun _ => 0) Tryz.func56 comp56 era56 (Nat.le_of_ble_eq_true rfl) fun σ => ?_
  repeat' (first | exact .nil | refine .k0 ?_ | refine .k1 ?_ | refine .k2 ?_ | refine .k3 ?_ | refine .k4 ?_ | refine .k5 ?_ | refine .k6 ?_ | refine .k7 ?_ | refine .k8 ?_ | refine .k9 ?_ | (refine .cd ?_ ?_ <;> first | with_reducible exact tF | with_reducible exact fT | (intro hc; first | exact kf hc (by assumption) | exact kt hc (by assumption) | skip)) | refine .r1 ?_ ?_ | (refine .l1 ?_; intro b) | (refine .m1 ?_ ?_; intro b) | (refine .m2 ?_ ?_; intro hlen) | (refine .m3 ?_ ?_; intro hlen) | refine .t1 ?_ ?_ ?_ | refine .t2 ?_ ?_ ?_ | refine .t3 ?_ ?_ ?_ | refine .t4 ?_ ?_ ?_ | (refine .l2 ?_; intro b) | refine .u1 ?_ ?_ ?_ (fun b u c => ?_) | refine .u2 ?_ ?_ ?_ (fun b u c => ?_) | refine .an rfl (by intro hob; first | exact unit_ok x.unit hu hl | exact unitR_ok x.unit hu hl | exact format_ok x.val hv | exact formatR_ok x.val hv | exact join_ok' _ rfl (Nat.le_of_ble_eq_true rfl) (by simp only [lenS, szl, List.size_toArray, List.length_cons, List.length_nil]; omega)) ?_ ?_ | refine .t5 ?_ ?_ ?_ | refine .t6 ?_ ?_ ?_ | refine .t7 ?_ ?_ ?_ | refine .r2 ?_ ?_ | refine .r3 ?_ ?_ | refine .r4 ?_ ?_ | refine .r5 ?_ ?_ | (refine .l3 ?_; intro b) | refine .r6 ?_ ?_ | refine .r7 ?_ ?_ | refine .r8 ?_ ?_ | refine .r9 ?_ ?_ | refine .ra ?_ ?_ | (show List.all _ _ = true; rfl) | (show (_ : Nat) = _; rfl))
  try any_goals ((intro hob; first | (simp_all; done) | (simp only [BL] at *; first | (simp_all; done) | omega)))
  all_goals (try simp only [BL] at *)
  any_goals (first | omega | (simp only [List.length_cons, List.length_nil, List.length_append, List.length_map, List.length_take, app_size, szl, str_len, List.size_toArray]; omega))
  all_goals (refine Sx.Fin.intro (by repeat' first | exact .refl _ | refine .same ?_ | refine .cons ?_) (bs ?_); simp [litT, catS, app_nil, app_assoc, *]; done)
theorem literalR11_ok (x : Ex) (h : litOK x) : Pure Tryz.prog 65 [.agg x.row] (sv (litT x)) := by
  have hv : VOK x.val := ⟨h.1, h.2.1⟩
  have hk := hv.kinds
  have hs := valS_size hv
  obtain ⟨hl, hu, ho⟩ := tyErr_unit h.2.2.1
  have hl : x.unit.length ≤ 4 := hl
  have hu : ∀ f ∈ x.unit, FacOK f := hu
  have ho : x.name.size ≤ 24 := ho
  have hz := unitT_size hu hl
  rw [Ex.row_eq x]
  refine Pure.runk (fun _ => 0) Tryz.func65 comp65 era65 (Nat.le_of_ble_eq_true rfl) fun σ => ?_
  repeat' (first | exact .nil | refine .k0 ?_ | refine .k1 ?_ | refine .k2 ?_ | refine .k3 ?_ | refine .k4 ?_ | refine .k5 ?_ | refine .k6 ?_ | refine .k7 ?_ | refine .k8 ?_ | refine .k9 ?_ | (refine .cd ?_ ?_ <;> first | with_reducible exact tF | with_reducible exact fT | (intro hc; first | exact kf hc (by assumption) | exact kt hc (by assumption) | skip)) | refine .r1 ?_ ?_ | (refine .l1 ?_; intro b) | (refine .m1 ?_ ?_; intro b) | (refine .m2 ?_ ?_; intro hlen) | (refine .m3 ?_ ?_; intro hlen) | refine .t1 ?_ ?_ ?_ | refine .t2 ?_ ?_ ?_ | refine .t3 ?_ ?_ ?_ | refine .t4 ?_ ?_ ?_ | (refine .l2 ?_; intro b) | refine .u1 ?_ ?_ ?_ (fun b u c => ?_) | refine .u2 ?_ ?_ ?_ (fun b u c => ?_) | refine .an rfl (by intro hob; first | exact unit_ok x.unit hu hl | exact unitR_ok x.unit hu hl | exact format_ok x.val hv | exact formatR_ok x.val hv | exact join_ok' _ rfl (Nat.le_of_ble_eq_true rfl) (by simp only [lenS, szl, List.size_toArray, List.length_cons, List.length_nil]; omega)) ?_ ?_ | refine .t5 ?_ ?_ ?_ | refine .t6 ?_ ?_ ?_ | refine .t7 ?_ ?_ ?_ | refine .r2 ?_ ?_ | refine .r3 ?_ ?_ | refine .r4 ?_ ?_ | refine .r5 ?_ ?_ | (refine .l3 ?_; intro b) | refine .r6 ?_ ?_ | refine .r7 ?_ ?_ | refine .r8 ?_ ?_ | refine .r9 ?_ ?_ | refine .ra ?_ ?_ | (show List.all _ _ = true; rfl) | (show (_ : Nat) = _; rfl))
  try any_goals ((intro hob; first | (simp_all; done) | (simp only [BL] at *; first | (simp_all; done) | omega)))
  all_goals (try simp only [BL] at *)
  any_goals (first | omega | (simp only [List.length_cons, List.length_nil, List.length_append, List.length_map, List.length_take, app_size, szl, str_len, List.size_toArray]; omega))
  all_goals (refine Sx.Fin.intro (by repeat' first | exact .refl _ | refine .same ?_ | refine .cons ?_) (bs ?_); simp [litT, catS, app_nil, app_assoc, *]; done)
theorem nameN_ok (x : Ex) : Pure Tryz.prog 57 [.agg x.row] (sv x.name) := by
  rw [Ex.row_eq x]
  refine Pure.runk (fun _ => 0) Tryz.func57 comp57 era57 (Nat.le_of_ble_eq_true rfl) fun σ => ?_
  repeat' (first | exact .nil | refine .k0 ?_ | refine .k1 ?_ | refine .k2 ?_ | refine .k3 ?_ | refine .k4 ?_ | refine .k5 ?_ | refine .k6 ?_ | refine .k7 ?_ | refine .k8 ?_ | refine .k9 ?_ | (refine .cd ?_ ?_ <;> first | with_reducible exact tF | with_reducible exact fT | (intro hc; first | exact kf hc (by assumption) | exact kt hc (by assumption) | skip)) | refine .r1 ?_ ?_ | (refine .l1 ?_; intro b) | (refine .m1 ?_ ?_; intro b) | (refine .m2 ?_ ?_; intro hlen) | (refine .m3 ?_ ?_; intro hlen) | refine .t1 ?_ ?_ ?_ | refine .t2 ?_ ?_ ?_ | refine .t3 ?_ ?_ ?_ | refine .t4 ?_ ?_ ?_ | (refine .l2 ?_; intro b) | refine .u1 ?_ ?_ ?_ (fun b u c => ?_) | refine .u2 ?_ ?_ ?_ (fun b u c => ?_) | refine .an rfl (by intro hob; first | fail) ?_ ?_ | refine .t5 ?_ ?_ ?_ | refine .t6 ?_ ?_ ?_ | refine .t7 ?_ ?_ ?_ | refine .r2 ?_ ?_ | refine .r3 ?_ ?_ | refine .r4 ?_ ?_ | refine .r5 ?_ ?_ | (refine .l3 ?_; intro b) | refine .r6 ?_ ?_ | refine .r7 ?_ ?_ | refine .r8 ?_ ?_ | refine .r9 ?_ ?_ | refine .ra ?_ ?_ | (show List.all _ _ = true; rfl) | (show (_ : Nat) = _; rfl))
  try any_goals ((intro hob; first | (simp_all; done) | (simp only [BL] at *; first | (simp_all; done) | omega)))
  all_goals (try simp only [BL] at *)
  all_goals exact Sx.Fin.intro (by repeat' first | exact .refl _ | refine .same ?_ | refine .cons ?_) rfl

/-- What is known of the texts of the operands. -/
structure Kids (x : Ex) (F : FuncId) : Prop where
  t : ∀ i, i < x.args.length → Pure Tryz.prog F [.agg (x.args.getD i default).row] (sv (tx x i))
  z : ∀ i, i < x.args.length → (tx x i).size ≤ 100000
theorem atF_len {x : Ex} {F : FuncId} (h : Kids x F) {i : Nat} {r : Int} (hi : i < x.args.length) : (atF x (tx x) i r).size ≤ 100002 := by
  have := h.z i hi
  have := @atF_size x (tx x) i r
  omega
theorem arg_ok (x : Ex) (h : Kids x 32) (i : Nat) (hi : i < x.args.length) (r : Int) : Pure Tryz.prog 94 [.agg x.row, iv i, iv r] (sv (atF x (tx x) i r)) := by
  have hz := h.z i hi
  rw [Ex.row_eq x]
  refine Pure.runk (fun _ => 0) Tryz.func94 comp94 era94 (Nat.le_of_ble_eq_true rfl) fun σ => ?_
  repeat' (first | exact .nil | refine .k0 ?_ | refine .k1 ?_ | refine .k2 ?_ | refine .k3 ?_ | refine .k4 ?_ | refine .k5 ?_ | refine .k6 ?_ | refine .k7 ?_ | refine .k8 ?_ | refine .k9 ?_ | (refine .cd ?_ ?_ <;> first | with_reducible exact tF | with_reducible exact fT | (intro hc; first | exact kf hc (by assumption) | exact kt hc (by assumption) | skip)) | refine .r1 ?_ ?_ | (refine .l1 ?_; intro b) | (refine .m1 ?_ ?_; intro b) | (refine .m2 ?_ ?_; intro hlen) | (refine .m3 ?_ ?_; intro hlen) | refine .t1 ?_ ?_ ?_ | refine .t2 ?_ ?_ ?_ | refine .t3 ?_ ?_ ?_ | refine .t4 ?_ ?_ ?_ | (refine .l2 ?_; intro b) | refine .u1 ?_ ?_ ?_ (fun b u c => ?_) | refine .u2 ?_ ?_ ?_ (fun b u c => ?_) | refine .an rfl (by intro hob; first | exact rank_ok (x.args.getD i default) | exact h.t i hi | exact join_ok' _ rfl (Nat.le_of_ble_eq_true rfl) (by simp only [lenS, szl, List.size_toArray, List.length_cons, List.length_nil]; omega)) ?_ ?_ | refine .t5 ?_ ?_ ?_ | refine .t6 ?_ ?_ ?_ | refine .t7 ?_ ?_ ?_ | refine .r2 ?_ ?_ | refine .r3 ?_ ?_ | refine .r4 ?_ ?_ | refine .r5 ?_ ?_ | (refine .l3 ?_; intro b) | refine .r6 ?_ ?_ | refine .r7 ?_ ?_ | refine .r8 ?_ ?_ | refine .r9 ?_ ?_ | refine .ra ?_ ?_ | (show List.all _ _ = true; rfl) | (show (_ : Nat) = _; rfl))
  try any_goals ((intro hob; first | (simp_all; done) | (simp only [BL] at *; first | (simp_all; done) | omega)))
  all_goals (try simp only [BL] at *)
  any_goals (first | omega | (simp only [List.length_cons, List.length_nil, List.length_append, List.length_map, List.length_take, app_size, szl, str_len, List.size_toArray]; omega))
  all_goals (refine Sx.Fin.intro (by repeat' first | exact .refl _ | refine .same ?_ | refine .cons ?_) (bs ?_); first | (rw [atF, if_pos hc]; simp only [par, catS, app_nil]; done) | (rw [atF, if_neg hc]; done))
theorem atF_0 (x : Ex) (T : Nat → Str) (i : Nat) : atF x T i 0 = T i := if_neg (by have := (rank_le (x.args.getD i default)).1; omega)
end Go.Proofs.YtklncofkcfjkeaaGreatDoor

/- Texts of expressions: the walk through the printer's methods. -/
set_option linter.unusedSimpArgs false
set_option linter.unusedVariables false
set_option maxRecDepth 100000
set_option maxHeartbeats 4000000
namespace Go.Proofs.YtklncofkcfjkeaaGreatDoor
open Go.Sx Go.Proofs
theorem app_nil' (a : Str) : (⟨#[]⟩ : Str) ++ a = a := str_ext (by simp)
theorem lookup_ok (x : Ex) (h : Kids x 32) (hl : x.args.length = 1) (hn : x.name.size ≤ 24) : Pure Tryz.prog 58 [.agg x.row] (sv (x.name ++ (⟨#[32, 111, 102, 32, 40]⟩ ++ (tx x 0 ++ ⟨#[41]⟩)))) := by
  have hz := @atF_len x _ h 0 0 (by omega)
  have h0 := atF_0 x (tx x) 0
  rw [Ex.row_eq x]
  refine Pure.runk (fun _ => 0) Tryz.func58 comp58 era58 (Nat.le_of_ble_eq_true rfl) fun σ => ?_
  repeat' (first | exact .nil | refine .k0 ?_ | refine .k1 ?_ | refine .k2 ?_ | refine .k3 ?_ | refine .k4 ?_ | refine .k5 ?_ | refine .k6 ?_ | refine .k7 ?_ | refine .k8 ?_ | refine .k9 ?_ | (refine .cd ?_ ?_ <;> first | with_reducible exact tF | with_reducible exact fT | (intro hc; first | exact kf hc (by assumption) | exact kt hc (by assumption) | skip)) | refine .r1 ?_ ?_ | (refine .l1 ?_; intro b) | (refine .m1 ?_ ?_; intro b) | (refine .m2 ?_ ?_; intro hlen) | (refine .m3 ?_ ?_; intro hlen) | refine .t1 ?_ ?_ ?_ | refine .t2 ?_ ?_ ?_ | refine .t3 ?_ ?_ ?_ | refine .t4 ?_ ?_ ?_ | (refine .l2 ?_; intro b) | refine .u1 ?_ ?_ ?_ (fun b u c => ?_) | refine .u2 ?_ ?_ ?_ (fun b u c => ?_) | refine .an rfl (by intro hob; first | (refine (rank_ok x).wk ?_; (repeat' first | exact .row | exact .refl _ | exact .nil | refine .cons ?_ ?_ | refine .tup ?_ | refine .agg ?_ | exact .sl | exact .own _); done) | (refine (window_ok x hw).wk ?_; (repeat' first | exact .row | exact .refl _ | exact .nil | refine .cons ?_ ?_ | refine .tup ?_ | refine .agg ?_ | exact .sl | exact .own _); done) | exact itoa_ok _ (by first | omega | (simp only [BL] at *; omega)) | (refine (arg_ok x h 0 (by omega) 0).wk ?_; (repeat' first | exact .row | exact .refl _ | exact .nil | refine .cons ?_ ?_ | refine .tup ?_ | refine .agg ?_ | exact .sl | exact .own _); done) | (refine (arg_ok x h 1 (by omega) 0).wk ?_; (repeat' first | exact .row | exact .refl _ | exact .nil | refine .cons ?_ ?_ | refine .tup ?_ | refine .agg ?_ | exact .sl | exact .own _); done) | (refine (arg_ok x h 2 (by omega) 0).wk ?_; (repeat' first | exact .row | exact .refl _ | exact .nil | refine .cons ?_ ?_ | refine .tup ?_ | refine .agg ?_ | exact .sl | exact .own _); done) | (refine (arg_ok x h 0 (by omega) 8).wk ?_; (repeat' first | exact .row | exact .refl _ | exact .nil | refine .cons ?_ ?_ | refine .tup ?_ | refine .agg ?_ | exact .sl | exact .own _); done) | (refine (arg_ok x h 0 (by omega) 4).wk ?_; (repeat' first | exact .row | exact .refl _ | exact .nil | refine .cons ?_ ?_ | refine .tup ?_ | refine .agg ?_ | exact .sl | exact .own _); done) | (refine (arg_ok x h 0 (by omega) 1).wk ?_; (repeat' first | exact .row | exact .refl _ | exact .nil | refine .cons ?_ ?_ | refine .tup ?_ | refine .agg ?_ | exact .sl | exact .own _); done) | (refine (arg_ok x h 1 (by omega) 2).wk ?_; (repeat' first | exact .row | exact .refl _ | exact .nil | refine .cons ?_ ?_ | refine .tup ?_ | refine .agg ?_ | exact .sl | exact .own _); done) | (refine (arg_ok x h 0 (by omega) (rank x)).wk ?_; (repeat' first | exact .row | exact .refl _ | exact .nil | refine .cons ?_ ?_ | refine .tup ?_ | refine .agg ?_ | exact .sl | exact .own _); done) | (refine (arg_ok x h 0 (by omega) (IntKind.i64.wrap (rank x + 1))).wk ?_; (repeat' first | exact .row | exact .refl _ | exact .nil | refine .cons ?_ ?_ | refine .tup ?_ | refine .agg ?_ | exact .sl | exact .own _); done) | (refine (arg_ok x h 1 (by omega) (IntKind.i64.wrap (rank x + 1))).wk ?_; (repeat' first | exact .row | exact .refl _ | exact .nil | refine .cons ?_ ?_ | refine .tup ?_ | refine .agg ?_ | exact .sl | exact .own _); done) | exact join_ok' _ rfl (Nat.le_of_ble_eq_true rfl) (by simp only [lenS, szl, List.size_toArray, List.length_cons, List.length_nil, catS_size]; omega)) ?_ ?_ | refine .t5 ?_ ?_ ?_ | refine .t6 ?_ ?_ ?_ | refine .t7 ?_ ?_ ?_ | refine .r2 ?_ ?_ | refine .r3 ?_ ?_ | refine .r4 ?_ ?_ | refine .r5 ?_ ?_ | (refine .l3 ?_; intro b) | refine .r6 ?_ ?_ | refine .r7 ?_ ?_ | refine .r8 ?_ ?_ | refine .r9 ?_ ?_ | refine .ra ?_ ?_ | (show List.all _ _ = true; rfl) | (show (_ : Nat) = _; rfl))
  try any_goals ((intro hob; first | (simp_all; done) | (simp only [BL] at *; first | (simp_all; done) | omega)))
  all_goals (try simp only [BL] at *)
  any_goals (first | omega | (simp only [List.length_cons, List.length_nil, List.length_append, List.length_map, List.length_take, app_size, szl, str_len, List.size_toArray]; omega))
  all_goals (refine Sx.Fin.intro (by repeat' first | exact .refl _ | refine .same ?_ | refine .cons ?_) (bs ?_); simp [catS, app_nil, *]; done)
theorem choice_ok (x : Ex) (h : Kids x 32) (hl : x.args.length = 3) : Pure Tryz.prog 62 [.agg x.row] (sv (ifT x (tx x))) := by
  have hz := @atF_len x _ h 0 0 (by omega)
  have hz1 := @atF_len x _ h 1 0 (by omega)
  have hz2 := @atF_len x _ h 2 0 (by omega)
  have h0 := atF_0 x (tx x) 0
  have h1 := atF_0 x (tx x) 1
  have h2 := atF_0 x (tx x) 2
  rw [Ex.row_eq x]
  refine Pure.runk (fun _ => 0) Tryz.func62 comp62 era62 (Nat.le_of_ble_eq_true rfl) fun σ => ?_
  repeat' (first | exact .nil | refine .k0 ?_ | refine .k1 ?_ | refine .k2 ?_ | refine .k3 ?_ | refine .k4 ?_ | refine .k5 ?_ | refine .k6 ?_ | refine .k7 ?_ | refine .k8 ?_ | refine .k9 ?_ | (refine .cd ?_ ?_ <;> first | with_reducible exact tF | with_reducible exact fT | (intro hc; first | exact kf hc (by assumption) | exact kt hc (by assumption) | skip)) | refine .r1 ?_ ?_ | (refine .l1 ?_; intro b) | (refine .m1 ?_ ?_; intro b) | (refine .m2 ?_ ?_; intro hlen) | (refine .m3 ?_ ?_; intro hlen) | refine .t1 ?_ ?_ ?_ | refine .t2 ?_ ?_ ?_ | refine .t3 ?_ ?_ ?_ | refine .t4 ?_ ?_ ?_ | (refine .l2 ?_; intro b) | refine .u1 ?_ ?_ ?_ (fun b u c => ?_) | refine .u2 ?_ ?_ ?_ (fun b u c => ?_) | refine .an rfl (by intro hob; first | (refine (rank_ok x).wk ?_; (repeat' first | exact .row | exact .refl _ | exact .nil | refine .cons ?_ ?_ | refine .tup ?_ | refine .agg ?_ | exact .sl | exact .own _); done) | (refine (window_ok x hw).wk ?_; (repeat' first | exact .row | exact .refl _ | exact .nil | refine .cons ?_ ?_ | refine .tup ?_ | refine .agg ?_ | exact .sl | exact .own _); done) | exact itoa_ok _ (by first | omega | (simp only [BL] at *; omega)) | (refine (arg_ok x h 0 (by omega) 0).wk ?_; (repeat' first | exact .row | exact .refl _ | exact .nil | refine .cons ?_ ?_ | refine .tup ?_ | refine .agg ?_ | exact .sl | exact .own _); done) | (refine (arg_ok x h 1 (by omega) 0).wk ?_; (repeat' first | exact .row | exact .refl _ | exact .nil | refine .cons ?_ ?_ | refine .tup ?_ | refine .agg ?_ | exact .sl | exact .own _); done) | (refine (arg_ok x h 2 (by omega) 0).wk ?_; (repeat' first | exact .row | exact .refl _ | exact .nil | refine .cons ?_ ?_ | refine .tup ?_ | refine .agg ?_ | exact .sl | exact .own _); done) | (refine (arg_ok x h 0 (by omega) 8).wk ?_; (repeat' first | exact .row | exact .refl _ | exact .nil | refine .cons ?_ ?_ | refine .tup ?_ | refine .agg ?_ | exact .sl | exact .own _); done) | (refine (arg_ok x h 0 (by omega) 4).wk ?_; (repeat' first | exact .row | exact .refl _ | exact .nil | refine .cons ?_ ?_ | refine .tup ?_ | refine .agg ?_ | exact .sl | exact .own _); done) | (refine (arg_ok x h 0 (by omega) 1).wk ?_; (repeat' first | exact .row | exact .refl _ | exact .nil | refine .cons ?_ ?_ | refine .tup ?_ | refine .agg ?_ | exact .sl | exact .own _); done) | (refine (arg_ok x h 1 (by omega) 2).wk ?_; (repeat' first | exact .row | exact .refl _ | exact .nil | refine .cons ?_ ?_ | refine .tup ?_ | refine .agg ?_ | exact .sl | exact .own _); done) | (refine (arg_ok x h 0 (by omega) (rank x)).wk ?_; (repeat' first | exact .row | exact .refl _ | exact .nil | refine .cons ?_ ?_ | refine .tup ?_ | refine .agg ?_ | exact .sl | exact .own _); done) | (refine (arg_ok x h 0 (by omega) (IntKind.i64.wrap (rank x + 1))).wk ?_; (repeat' first | exact .row | exact .refl _ | exact .nil | refine .cons ?_ ?_ | refine .tup ?_ | refine .agg ?_ | exact .sl | exact .own _); done) | (refine (arg_ok x h 1 (by omega) (IntKind.i64.wrap (rank x + 1))).wk ?_; (repeat' first | exact .row | exact .refl _ | exact .nil | refine .cons ?_ ?_ | refine .tup ?_ | refine .agg ?_ | exact .sl | exact .own _); done) | exact join_ok' _ rfl (Nat.le_of_ble_eq_true rfl) (by simp only [lenS, szl, List.size_toArray, List.length_cons, List.length_nil, catS_size]; omega)) ?_ ?_ | refine .t5 ?_ ?_ ?_ | refine .t6 ?_ ?_ ?_ | refine .t7 ?_ ?_ ?_ | refine .r2 ?_ ?_ | refine .r3 ?_ ?_ | refine .r4 ?_ ?_ | refine .r5 ?_ ?_ | (refine .l3 ?_; intro b) | refine .r6 ?_ ?_ | refine .r7 ?_ ?_ | refine .r8 ?_ ?_ | refine .r9 ?_ ?_ | refine .ra ?_ ?_ | (show List.all _ _ = true; rfl) | (show (_ : Nat) = _; rfl))
  try any_goals ((intro hob; first | (simp_all; done) | (simp only [BL] at *; first | (simp_all; done) | omega)))
  all_goals (try simp only [BL] at *)
  any_goals (first | omega | (simp only [List.length_cons, List.length_nil, List.length_append, List.length_map, List.length_take, app_size, szl, str_len, List.size_toArray]; omega))
  all_goals (refine Sx.Fin.intro (by repeat' first | exact .refl _ | refine .same ?_ | refine .cons ?_) (bs ?_); simp [ifT, catS, app_nil, *]; done)
theorem fallback_ok (x : Ex) (h : Kids x 32) (hl : x.args.length = 2) : Pure Tryz.prog 63 [.agg x.row] (sv (defT x (tx x))) := by
  have hz := @atF_len x _ h 0 1 (by omega)
  have hz1 := @atF_len x _ h 1 2 (by omega)
  rw [Ex.row_eq x]
  refine Pure.runk (fun _ => 0) Tryz.func63 comp63 era63 (Nat.le_of_ble_eq_true rfl) fun σ => ?_
  repeat' (first | exact .nil | refine .k0 ?_ | refine .k1 ?_ | refine .k2 ?_ | refine .k3 ?_ | refine .k4 ?_ | refine .k5 ?_ | refine .k6 ?_ | refine .k7 ?_ | refine .k8 ?_ | refine .k9 ?_ | (refine .cd ?_ ?_ <;> first | with_reducible exact tF | with_reducible exact fT | (intro hc; first | exact kf hc (by assumption) | exact kt hc (by assumption) | skip)) | refine .r1 ?_ ?_ | (refine .l1 ?_; intro b) | (refine .m1 ?_ ?_; intro b) | (refine .m2 ?_ ?_; intro hlen) | (refine .m3 ?_ ?_; intro hlen) | refine .t1 ?_ ?_ ?_ | refine .t2 ?_ ?_ ?_ | refine .t3 ?_ ?_ ?_ | refine .t4 ?_ ?_ ?_ | (refine .l2 ?_; intro b) | refine .u1 ?_ ?_ ?_ (fun b u c => ?_) | refine .u2 ?_ ?_ ?_ (fun b u c => ?_) | refine .an rfl (by intro hob; first | (refine (rank_ok x).wk ?_; (repeat' first | exact .row | exact .refl _ | exact .nil | refine .cons ?_ ?_ | refine .tup ?_ | refine .agg ?_ | exact .sl | exact .own _); done) | (refine (window_ok x hw).wk ?_; (repeat' first | exact .row | exact .refl _ | exact .nil | refine .cons ?_ ?_ | refine .tup ?_ | refine .agg ?_ | exact .sl | exact .own _); done) | exact itoa_ok _ (by first | omega | (simp only [BL] at *; omega)) | (refine (arg_ok x h 0 (by omega) 0).wk ?_; (repeat' first | exact .row | exact .refl _ | exact .nil | refine .cons ?_ ?_ | refine .tup ?_ | refine .agg ?_ | exact .sl | exact .own _); done) | (refine (arg_ok x h 1 (by omega) 0).wk ?_; (repeat' first | exact .row | exact .refl _ | exact .nil | refine .cons ?_ ?_ | refine .tup ?_ | refine .agg ?_ | exact .sl | exact .own _); done) | (refine (arg_ok x h 2 (by omega) 0).wk ?_; (repeat' first | exact .row | exact .refl _ | exact .nil | refine .cons ?_ ?_ | refine .tup ?_ | refine .agg ?_ | exact .sl | exact .own _); done) | (refine (arg_ok x h 0 (by omega) 8).wk ?_; (repeat' first | exact .row | exact .refl _ | exact .nil | refine .cons ?_ ?_ | refine .tup ?_ | refine .agg ?_ | exact .sl | exact .own _); done) | (refine (arg_ok x h 0 (by omega) 4).wk ?_; (repeat' first | exact .row | exact .refl _ | exact .nil | refine .cons ?_ ?_ | refine .tup ?_ | refine .agg ?_ | exact .sl | exact .own _); done) | (refine (arg_ok x h 0 (by omega) 1).wk ?_; (repeat' first | exact .row | exact .refl _ | exact .nil | refine .cons ?_ ?_ | refine .tup ?_ | refine .agg ?_ | exact .sl | exact .own _); done) | (refine (arg_ok x h 1 (by omega) 2).wk ?_; (repeat' first | exact .row | exact .refl _ | exact .nil | refine .cons ?_ ?_ | refine .tup ?_ | refine .agg ?_ | exact .sl | exact .own _); done) | (refine (arg_ok x h 0 (by omega) (rank x)).wk ?_; (repeat' first | exact .row | exact .refl _ | exact .nil | refine .cons ?_ ?_ | refine .tup ?_ | refine .agg ?_ | exact .sl | exact .own _); done) | (refine (arg_ok x h 0 (by omega) (IntKind.i64.wrap (rank x + 1))).wk ?_; (repeat' first | exact .row | exact .refl _ | exact .nil | refine .cons ?_ ?_ | refine .tup ?_ | refine .agg ?_ | exact .sl | exact .own _); done) | (refine (arg_ok x h 1 (by omega) (IntKind.i64.wrap (rank x + 1))).wk ?_; (repeat' first | exact .row | exact .refl _ | exact .nil | refine .cons ?_ ?_ | refine .tup ?_ | refine .agg ?_ | exact .sl | exact .own _); done) | exact join_ok' _ rfl (Nat.le_of_ble_eq_true rfl) (by simp only [lenS, szl, List.size_toArray, List.length_cons, List.length_nil, catS_size]; omega)) ?_ ?_ | refine .t5 ?_ ?_ ?_ | refine .t6 ?_ ?_ ?_ | refine .t7 ?_ ?_ ?_ | refine .r2 ?_ ?_ | refine .r3 ?_ ?_ | refine .r4 ?_ ?_ | refine .r5 ?_ ?_ | (refine .l3 ?_; intro b) | refine .r6 ?_ ?_ | refine .r7 ?_ ?_ | refine .r8 ?_ ?_ | refine .r9 ?_ ?_ | refine .ra ?_ ?_ | (show List.all _ _ = true; rfl) | (show (_ : Nat) = _; rfl))
  try any_goals ((intro hob; first | (simp_all; done) | (simp only [BL] at *; first | (simp_all; done) | omega)))
  all_goals (try simp only [BL] at *)
  any_goals (first | omega | (simp only [List.length_cons, List.length_nil, List.length_append, List.length_map, List.length_take, app_size, szl, str_len, List.size_toArray]; omega))
  all_goals (refine Sx.Fin.intro (by repeat' first | exact .refl _ | refine .same ?_ | refine .cons ?_) (bs ?_); simp [defT, catS, app_nil, *]; done)
theorem unary_ok (x : Ex) (h : Kids x 32) (hl : x.args.length = 1) : Pure Tryz.prog 60 [.agg x.row] (sv (unT x (tx x))) := by
  have hz := @atF_len x _ h 0 0 (by omega)
  have hz1 := @atF_len x _ h 0 8 (by omega)
  have hz2 := @atF_len x _ h 0 4 (by omega)
  have h0 := atF_0 x (tx x) 0
  rw [Ex.row_eq x]
  refine Pure.runk (fun _ => 0) Tryz.func60 comp60 era60 (Nat.le_of_ble_eq_true rfl) fun σ => ?_
  repeat' (first | exact .nil | refine .k0 ?_ | refine .k1 ?_ | refine .k2 ?_ | refine .k3 ?_ | refine .k4 ?_ | refine .k5 ?_ | refine .k6 ?_ | refine .k7 ?_ | refine .k8 ?_ | refine .k9 ?_ | (refine .cd ?_ ?_ <;> first | with_reducible exact tF | with_reducible exact fT | (intro hc; first | exact kf hc (by assumption) | exact kt hc (by assumption) | skip)) | refine .r1 ?_ ?_ | (refine .l1 ?_; intro b) | (refine .m1 ?_ ?_; intro b) | (refine .m2 ?_ ?_; intro hlen) | (refine .m3 ?_ ?_; intro hlen) | refine .t1 ?_ ?_ ?_ | refine .t2 ?_ ?_ ?_ | refine .t3 ?_ ?_ ?_ | refine .t4 ?_ ?_ ?_ | (refine .l2 ?_; intro b) | refine .u1 ?_ ?_ ?_ (fun b u c => ?_) | refine .u2 ?_ ?_ ?_ (fun b u c => ?_) | refine .an rfl (by intro hob; first | (refine (rank_ok x).wk ?_; (repeat' first | exact .row | exact .refl _ | exact .nil | refine .cons ?_ ?_ | refine .tup ?_ | refine .agg ?_ | exact .sl | exact .own _); done) | (refine (window_ok x hw).wk ?_; (repeat' first | exact .row | exact .refl _ | exact .nil | refine .cons ?_ ?_ | refine .tup ?_ | refine .agg ?_ | exact .sl | exact .own _); done) | exact itoa_ok _ (by first | omega | (simp only [BL] at *; omega)) | (refine (arg_ok x h 0 (by omega) 0).wk ?_; (repeat' first | exact .row | exact .refl _ | exact .nil | refine .cons ?_ ?_ | refine .tup ?_ | refine .agg ?_ | exact .sl | exact .own _); done) | (refine (arg_ok x h 1 (by omega) 0).wk ?_; (repeat' first | exact .row | exact .refl _ | exact .nil | refine .cons ?_ ?_ | refine .tup ?_ | refine .agg ?_ | exact .sl | exact .own _); done) | (refine (arg_ok x h 2 (by omega) 0).wk ?_; (repeat' first | exact .row | exact .refl _ | exact .nil | refine .cons ?_ ?_ | refine .tup ?_ | refine .agg ?_ | exact .sl | exact .own _); done) | (refine (arg_ok x h 0 (by omega) 8).wk ?_; (repeat' first | exact .row | exact .refl _ | exact .nil | refine .cons ?_ ?_ | refine .tup ?_ | refine .agg ?_ | exact .sl | exact .own _); done) | (refine (arg_ok x h 0 (by omega) 4).wk ?_; (repeat' first | exact .row | exact .refl _ | exact .nil | refine .cons ?_ ?_ | refine .tup ?_ | refine .agg ?_ | exact .sl | exact .own _); done) | (refine (arg_ok x h 0 (by omega) 1).wk ?_; (repeat' first | exact .row | exact .refl _ | exact .nil | refine .cons ?_ ?_ | refine .tup ?_ | refine .agg ?_ | exact .sl | exact .own _); done) | (refine (arg_ok x h 1 (by omega) 2).wk ?_; (repeat' first | exact .row | exact .refl _ | exact .nil | refine .cons ?_ ?_ | refine .tup ?_ | refine .agg ?_ | exact .sl | exact .own _); done) | (refine (arg_ok x h 0 (by omega) (rank x)).wk ?_; (repeat' first | exact .row | exact .refl _ | exact .nil | refine .cons ?_ ?_ | refine .tup ?_ | refine .agg ?_ | exact .sl | exact .own _); done) | (refine (arg_ok x h 0 (by omega) (IntKind.i64.wrap (rank x + 1))).wk ?_; (repeat' first | exact .row | exact .refl _ | exact .nil | refine .cons ?_ ?_ | refine .tup ?_ | refine .agg ?_ | exact .sl | exact .own _); done) | (refine (arg_ok x h 1 (by omega) (IntKind.i64.wrap (rank x + 1))).wk ?_; (repeat' first | exact .row | exact .refl _ | exact .nil | refine .cons ?_ ?_ | refine .tup ?_ | refine .agg ?_ | exact .sl | exact .own _); done) | exact join_ok' _ rfl (Nat.le_of_ble_eq_true rfl) (by simp only [lenS, szl, List.size_toArray, List.length_cons, List.length_nil, catS_size]; omega)) ?_ ?_ | refine .t5 ?_ ?_ ?_ | refine .t6 ?_ ?_ ?_ | refine .t7 ?_ ?_ ?_ | refine .r2 ?_ ?_ | refine .r3 ?_ ?_ | refine .r4 ?_ ?_ | refine .r5 ?_ ?_ | (refine .l3 ?_; intro b) | refine .r6 ?_ ?_ | refine .r7 ?_ ?_ | refine .r8 ?_ ?_ | refine .r9 ?_ ?_ | refine .ra ?_ ?_ | (show List.all _ _ = true; rfl) | (show (_ : Nat) = _; rfl))
  try any_goals ((intro hob; first | (simp_all; done) | (simp only [BL] at *; first | (simp_all; done) | omega)))
  all_goals (try simp only [BL] at *)
  any_goals (first | omega | (simp only [List.length_cons, List.length_nil, List.length_append, List.length_map, List.length_take, app_size, szl, str_len, List.size_toArray]; omega))
  all_goals (refine Sx.Fin.intro (by repeat' first | exact .refl _ | refine .same ?_ | refine .cons ?_) (bs ?_); simp [unT, catS, app_nil, *]; done)
theorem binary_ok (x : Ex) (h : Kids x 32) (hl : x.args.length = 2) (ho : x.op.size ≤ 8) : Pure Tryz.prog 61 [.agg x.row] (sv (binT x (tx x))) := by
  have hz := @atF_len x _ h 0 (rank x) (by omega)
  have hz1 := @atF_len x _ h 0 (IntKind.i64.wrap (rank x + 1)) (by omega)
  have hz2 := @atF_len x _ h 1 (IntKind.i64.wrap (rank x + 1)) (by omega)
  have hr := rank_le x
  rw [Ex.row_eq x]
  refine Pure.runk (fun _ => 0) Tryz.func61 comp61 era61 (Nat.le_of_ble_eq_true rfl) fun σ => ?_
  repeat' (first | exact .nil | refine .k0 ?_ | refine .k1 ?_ | refine .k2 ?_ | refine .k3 ?_ | refine .k4 ?_ | refine .k5 ?_ | refine .k6 ?_ | refine .k7 ?_ | refine .k8 ?_ | refine .k9 ?_ | (refine .cd ?_ ?_ <;> first | with_reducible exact tF | with_reducible exact fT | (intro hc; first | exact kf hc (by assumption) | exact kt hc (by assumption) | skip)) | refine .r1 ?_ ?_ | (refine .l1 ?_; intro b) | (refine .m1 ?_ ?_; intro b) | (refine .m2 ?_ ?_; intro hlen) | (refine .m3 ?_ ?_; intro hlen) | refine .t1 ?_ ?_ ?_ | refine .t2 ?_ ?_ ?_ | refine .t3 ?_ ?_ ?_ | refine .t4 ?_ ?_ ?_ | (refine .l2 ?_; intro b) | refine .u1 ?_ ?_ ?_ (fun b u c => ?_) | refine .u2 ?_ ?_ ?_ (fun b u c => ?_) | refine .an rfl (by intro hob; first | (refine (rank_ok x).wk ?_; (repeat' first | exact .row | exact .refl _ | exact .nil | refine .cons ?_ ?_ | refine .tup ?_ | refine .agg ?_ | exact .sl | exact .own _); done) | (refine (window_ok x hw).wk ?_; (repeat' first | exact .row | exact .refl _ | exact .nil | refine .cons ?_ ?_ | refine .tup ?_ | refine .agg ?_ | exact .sl | exact .own _); done) | exact itoa_ok _ (by first | omega | (simp only [BL] at *; omega)) | (refine (arg_ok x h 0 (by omega) 0).wk ?_; (repeat' first | exact .row | exact .refl _ | exact .nil | refine .cons ?_ ?_ | refine .tup ?_ | refine .agg ?_ | exact .sl | exact .own _); done) | (refine (arg_ok x h 1 (by omega) 0).wk ?_; (repeat' first | exact .row | exact .refl _ | exact .nil | refine .cons ?_ ?_ | refine .tup ?_ | refine .agg ?_ | exact .sl | exact .own _); done) | (refine (arg_ok x h 2 (by omega) 0).wk ?_; (repeat' first | exact .row | exact .refl _ | exact .nil | refine .cons ?_ ?_ | refine .tup ?_ | refine .agg ?_ | exact .sl | exact .own _); done) | (refine (arg_ok x h 0 (by omega) 8).wk ?_; (repeat' first | exact .row | exact .refl _ | exact .nil | refine .cons ?_ ?_ | refine .tup ?_ | refine .agg ?_ | exact .sl | exact .own _); done) | (refine (arg_ok x h 0 (by omega) 4).wk ?_; (repeat' first | exact .row | exact .refl _ | exact .nil | refine .cons ?_ ?_ | refine .tup ?_ | refine .agg ?_ | exact .sl | exact .own _); done) | (refine (arg_ok x h 0 (by omega) 1).wk ?_; (repeat' first | exact .row | exact .refl _ | exact .nil | refine .cons ?_ ?_ | refine .tup ?_ | refine .agg ?_ | exact .sl | exact .own _); done) | (refine (arg_ok x h 1 (by omega) 2).wk ?_; (repeat' first | exact .row | exact .refl _ | exact .nil | refine .cons ?_ ?_ | refine .tup ?_ | refine .agg ?_ | exact .sl | exact .own _); done) | (refine (arg_ok x h 0 (by omega) (rank x)).wk ?_; (repeat' first | exact .row | exact .refl _ | exact .nil | refine .cons ?_ ?_ | refine .tup ?_ | refine .agg ?_ | exact .sl | exact .own _); done) | (refine (arg_ok x h 0 (by omega) (IntKind.i64.wrap (rank x + 1))).wk ?_; (repeat' first | exact .row | exact .refl _ | exact .nil | refine .cons ?_ ?_ | refine .tup ?_ | refine .agg ?_ | exact .sl | exact .own _); done) | (refine (arg_ok x h 1 (by omega) (IntKind.i64.wrap (rank x + 1))).wk ?_; (repeat' first | exact .row | exact .refl _ | exact .nil | refine .cons ?_ ?_ | refine .tup ?_ | refine .agg ?_ | exact .sl | exact .own _); done) | exact join_ok' _ rfl (Nat.le_of_ble_eq_true rfl) (by simp only [lenS, szl, List.size_toArray, List.length_cons, List.length_nil, catS_size]; omega)) ?_ ?_ | refine .t5 ?_ ?_ ?_ | refine .t6 ?_ ?_ ?_ | refine .t7 ?_ ?_ ?_ | refine .r2 ?_ ?_ | refine .r3 ?_ ?_ | refine .r4 ?_ ?_ | refine .r5 ?_ ?_ | (refine .l3 ?_; intro b) | refine .r6 ?_ ?_ | refine .r7 ?_ ?_ | refine .r8 ?_ ?_ | refine .r9 ?_ ?_ | refine .ra ?_ ?_ | (show List.all _ _ = true; rfl) | (show (_ : Nat) = _; rfl))
  try any_goals ((intro hob; first | (simp_all; done) | (simp only [BL] at *; first | (simp_all; done) | omega)))
  all_goals (try simp only [BL] at *)
  any_goals (first | omega | (simp only [List.length_cons, List.length_nil, List.length_append, List.length_map, List.length_take, app_size, szl, str_len, List.size_toArray]; omega))
  all_goals (refine Sx.Fin.intro (by repeat' first | exact .refl _ | refine .same ?_ | refine .cons ?_) (bs ?_); have hw : IntKind.i64.wrap (rank x + 1) = rank x + 1 := i64w (by omega)
             rw [hw]; unfold binT leftR; first | (simp only [hc, catS, app_nil, if_true, if_false]; done) | (simp only [hc, catS, app_nil, if_true, if_false]; rfl))
theorem tru_iff {y : Ex} {q : Bool} (hf : form q y = true) : y = tru ↔ y.kind = 1 ∧ y.val.kind = 1 ∧ y.val.n = 1 ∧ y.val.s = ⟨#[]⟩ := by
  constructor
  · rintro rfl; exact ⟨rfl, rfl, rfl, rfl⟩
  · rintro ⟨h1, h2, h3, h4⟩
    refine form_lit hf ?_
    have hb := (FOK.of hf).nb
    unfold nodeB at hb
    rw [if_pos h1] at hb
    obtain ⟨e1, e2, e3, e4⟩ := hb
    have hu : y.unit = [] ∧ y.name = ⟨#[]⟩ := by
      unfold tyErr at e3
      split at e3
      · omega
      · rename_i h
        simp only [Num] at h
        constructor
        · exact Decidable.not_not.1 fun h' => h (.inr (.inr (.inl ⟨h', by omega⟩)))
        · exact Decidable.not_not.1 fun h' => h (.inr (.inr (.inr (.inr ⟨by omega, h'⟩))))
    obtain ⟨f1, f2, f3, f4, f5, f6, f7, f8⟩ := e4
    exact ⟨h1, f2, hu.2, f4, val_eq.2 ⟨h2, h3, h4⟩, hu.1, f7, f8⟩
theorem aggregate_ok (x : Ex) (h : Kids x 32) (hl : x.args.length = 2) (ho : x.op.size ≤ 8) (ht : x.table.size ≤ 24) (hw : winOK x.win) (hp : 0 ≤ x.param ∧ x.param ≤ 1073741824) (hf : form true (x.args.getD 1 default) = true) : Pure Tryz.prog 59 [.agg x.row] (sv (aggT x (tx x))) := by
  have hz := @atF_len x _ h 0 0 (by omega)
  have hz1 := @atF_len x _ h 1 0 (by omega)
  have h0 := atF_0 x (tx x) 0
  have h1 := atF_0 x (tx x) 1
  have hi := itoa_int hp.1
  have hz3 := itoa_size x.param (by omega)
  have hz4 := winT_size hw
  rw [Ex.row_eq x]
  refine Pure.runk (fun _ => 0) Tryz.func59 comp59 era59 (Nat.le_of_ble_eq_true rfl) fun σ => ?_
  repeat' (first | exact .nil | refine .k0 ?_ | refine .k1 ?_ | refine .k2 ?_ | refine .k3 ?_ | refine .k4 ?_ | refine .k5 ?_ | refine .k6 ?_ | refine .k7 ?_ | refine .k8 ?_ | refine .k9 ?_ | (refine .cd ?_ ?_ <;> first | with_reducible exact tF | with_reducible exact fT | (intro hc; first | exact kf hc (by assumption) | exact kt hc (by assumption) | skip)) | refine .r1 ?_ ?_ | (refine .l1 ?_; intro b) | (refine .m1 ?_ ?_; intro b) | (refine .m2 ?_ ?_; intro hlen) | (refine .m3 ?_ ?_; intro hlen) | refine .t1 ?_ ?_ ?_ | refine .t2 ?_ ?_ ?_ | refine .t3 ?_ ?_ ?_ | refine .t4 ?_ ?_ ?_ | (refine .l2 ?_; intro b) | refine .u1 ?_ ?_ ?_ (fun b u c => ?_) | refine .u2 ?_ ?_ ?_ (fun b u c => ?_) | refine .an rfl (by intro hob; first | (refine (rank_ok x).wk ?_; (repeat' first | exact .row | exact .refl _ | exact .nil | refine .cons ?_ ?_ | refine .tup ?_ | refine .agg ?_ | exact .sl | exact .own _); done) | (refine (window_ok x hw).wk ?_; (repeat' first | exact .row | exact .refl _ | exact .nil | refine .cons ?_ ?_ | refine .tup ?_ | refine .agg ?_ | exact .sl | exact .own _); done) | exact itoa_ok _ (by first | omega | (simp only [BL] at *; omega)) | (refine (arg_ok x h 0 (by omega) 0).wk ?_; (repeat' first | exact .row | exact .refl _ | exact .nil | refine .cons ?_ ?_ | refine .tup ?_ | refine .agg ?_ | exact .sl | exact .own _); done) | (refine (arg_ok x h 1 (by omega) 0).wk ?_; (repeat' first | exact .row | exact .refl _ | exact .nil | refine .cons ?_ ?_ | refine .tup ?_ | refine .agg ?_ | exact .sl | exact .own _); done) | (refine (arg_ok x h 2 (by omega) 0).wk ?_; (repeat' first | exact .row | exact .refl _ | exact .nil | refine .cons ?_ ?_ | refine .tup ?_ | refine .agg ?_ | exact .sl | exact .own _); done) | (refine (arg_ok x h 0 (by omega) 8).wk ?_; (repeat' first | exact .row | exact .refl _ | exact .nil | refine .cons ?_ ?_ | refine .tup ?_ | refine .agg ?_ | exact .sl | exact .own _); done) | (refine (arg_ok x h 0 (by omega) 4).wk ?_; (repeat' first | exact .row | exact .refl _ | exact .nil | refine .cons ?_ ?_ | refine .tup ?_ | refine .agg ?_ | exact .sl | exact .own _); done) | (refine (arg_ok x h 0 (by omega) 1).wk ?_; (repeat' first | exact .row | exact .refl _ | exact .nil | refine .cons ?_ ?_ | refine .tup ?_ | refine .agg ?_ | exact .sl | exact .own _); done) | (refine (arg_ok x h 1 (by omega) 2).wk ?_; (repeat' first | exact .row | exact .refl _ | exact .nil | refine .cons ?_ ?_ | refine .tup ?_ | refine .agg ?_ | exact .sl | exact .own _); done) | (refine (arg_ok x h 0 (by omega) (rank x)).wk ?_; (repeat' first | exact .row | exact .refl _ | exact .nil | refine .cons ?_ ?_ | refine .tup ?_ | refine .agg ?_ | exact .sl | exact .own _); done) | (refine (arg_ok x h 0 (by omega) (IntKind.i64.wrap (rank x + 1))).wk ?_; (repeat' first | exact .row | exact .refl _ | exact .nil | refine .cons ?_ ?_ | refine .tup ?_ | refine .agg ?_ | exact .sl | exact .own _); done) | (refine (arg_ok x h 1 (by omega) (IntKind.i64.wrap (rank x + 1))).wk ?_; (repeat' first | exact .row | exact .refl _ | exact .nil | refine .cons ?_ ?_ | refine .tup ?_ | refine .agg ?_ | exact .sl | exact .own _); done) | exact join_ok' _ rfl (Nat.le_of_ble_eq_true rfl) (by simp only [lenS, szl, List.size_toArray, List.length_cons, List.length_nil, catS_size]; omega)) ?_ ?_ | refine .t5 ?_ ?_ ?_ | refine .t6 ?_ ?_ ?_ | refine .t7 ?_ ?_ ?_ | refine .r2 ?_ ?_ | refine .r3 ?_ ?_ | refine .r4 ?_ ?_ | refine .r5 ?_ ?_ | (refine .l3 ?_; intro b) | refine .r6 ?_ ?_ | refine .r7 ?_ ?_ | refine .r8 ?_ ?_ | refine .r9 ?_ ?_ | refine .ra ?_ ?_ | (show List.all _ _ = true; rfl) | (show (_ : Nat) = _; rfl))
  try any_goals ((intro hob; first | (simp_all; done) | (simp only [BL] at *; first | (simp_all; done) | omega)))
  all_goals (try simp only [BL] at *)
  any_goals (first | omega | (simp only [List.length_cons, List.length_nil, List.length_append, List.length_map, List.length_take, app_size, szl, str_len, List.size_toArray]; omega))
  try any_goals (simp only [catS_size, lenS, szl, List.size_toArray, List.length_cons, List.length_nil]; omega)
  all_goals (refine Sx.Fin.intro (by repeat' first | exact .refl _ | refine .same ?_ | refine .cons ?_) (bs ?_); have hy := tru_iff hf; unfold aggT cnt; repeat' split
             all_goals first | (exfalso; grind) | (simp only [catS, app_nil, app_nil', app_assoc, h0, h1, hi]; done))
end Go.Proofs.YtklncofkcfjkeaaGreatDoor

/- Texts of expressions: the printer's whole walk. -/
set_option linter.unusedSimpArgs false
set_option linter.unusedVariables false
set_option maxRecDepth 100000
set_option maxHeartbeats 4000000
namespace Go.Proofs.YtklncofkcfjkeaaGreatDoor
open Go.Sx Go.Proofs
theorem text_disp (x : Ex) (r : Str) (h : (x.kind = 1 ∧ Pure Tryz.prog 56 [.agg x.row] (sv r))
    ∨ (x.kind = 2 ∧ Pure Tryz.prog 57 [.agg x.row] (sv r)) ∨ (x.kind = 3 ∧ Pure Tryz.prog 57 [.agg x.row] (sv r))
    ∨ (x.kind = 4 ∧ Pure Tryz.prog 58 [.agg x.row] (sv r)) ∨ (x.kind = 5 ∧ Pure Tryz.prog 59 [.agg x.row] (sv r))
    ∨ (x.kind = 6 ∧ Pure Tryz.prog 60 [.agg x.row] (sv r)) ∨ (x.kind = 7 ∧ Pure Tryz.prog 61 [.agg x.row] (sv r))
    ∨ (x.kind = 8 ∧ Pure Tryz.prog 62 [.agg x.row] (sv r)) ∨ (x.kind = 9 ∧ Pure Tryz.prog 63 [.agg x.row] (sv r))) :
    Pure Tryz.prog 32 [.agg x.row] (sv r) := by
  obtain ⟨k, o, nm, t, v, u, p, w, ks⟩ := x
  simp only [Ex.kind] at h
  rcases h with ⟨rfl, hC⟩ | ⟨rfl, hC⟩ | ⟨rfl, hC⟩ | ⟨rfl, hC⟩ | ⟨rfl, hC⟩ | ⟨rfl, hC⟩ | ⟨rfl, hC⟩ | ⟨rfl, hC⟩ | ⟨rfl, hC⟩
  all_goals rw [Ex.row_eq]
  all_goals rw [Ex.row_eq] at hC
  all_goals refine Pure.runk (fun _ => 0) Tryz.func32 comp32 era32 (Nat.le_of_ble_eq_true rfl) fun σ => ?_
  repeat' (first | exact .nil | refine .k0 ?_ | refine .k1 ?_ | refine .k2 ?_ | refine .k3 ?_ | refine .k4 ?_ | refine .k5 ?_ | refine .k6 ?_ | refine .k7 ?_ | refine .k8 ?_ | refine .k9 ?_ | (refine .cd ?_ ?_ <;> first | with_reducible exact tF | with_reducible exact fT | (intro hc; first | exact kf hc (by assumption) | exact kt hc (by assumption) | skip)) | refine .r1 ?_ ?_ | (refine .l1 ?_; intro b) | (refine .m1 ?_ ?_; intro b) | (refine .m2 ?_ ?_; intro hlen) | (refine .m3 ?_ ?_; intro hlen) | refine .t1 ?_ ?_ ?_ | refine .t2 ?_ ?_ ?_ | refine .t3 ?_ ?_ ?_ | refine .t4 ?_ ?_ ?_ | (refine .l2 ?_; intro b) | refine .u1 ?_ ?_ ?_ (fun b u c => ?_) | refine .u2 ?_ ?_ ?_ (fun b u c => ?_) | refine .an rfl (by intro hob; first | (refine hC.wk ?_; (repeat' first | exact .row | exact .refl _ | exact .nil | refine .cons ?_ ?_ | refine .tup ?_ | refine .agg ?_ | exact .sl | exact .own _); done)) ?_ ?_ | refine .t5 ?_ ?_ ?_ | refine .t6 ?_ ?_ ?_ | refine .t7 ?_ ?_ ?_ | refine .r2 ?_ ?_ | refine .r3 ?_ ?_ | refine .r4 ?_ ?_ | refine .r5 ?_ ?_ | (refine .l3 ?_; intro b) | refine .r6 ?_ ?_ | refine .r7 ?_ ?_ | refine .r8 ?_ ?_ | refine .r9 ?_ ?_ | refine .ra ?_ ?_ | (show List.all _ _ = true; rfl) | (show (_ : Nat) = _; rfl))
  try any_goals ((intro hob; first | (simp_all; done) | (simp only [BL] at *; first | (simp_all; done) | omega)))
  all_goals (try simp only [BL] at *)
  all_goals exact Sx.Fin.intro (by repeat' first | exact .refl _ | refine .same ?_ | refine .cons ?_) rfl

theorem kinds_of {x : Ex} {ins : Bool} (h : nodeB x ins) : 1 ≤ x.kind ∧ x.kind ≤ 9 := by
  unfold nodeB at h
  repeat' split at h
  all_goals first | omega | exact h.elim
/-- What each kind needs of its form. -/
theorem parts {x : Ex} {ins : Bool} (h : FOK x ins) :
    (x.kind = 1 → litOK x ∧ x.args.length = 0) ∧ (x.kind = 2 ∨ x.kind = 3 → namOK x ∧ x.args.length = 0) ∧ (x.kind = 4 → namOK x ∧ x.args.length = 1) ∧ (x.kind = 5 → aggOK x ∧ x.args.length = 2)
    ∧ (x.kind = 6 → x.args.length = 1 ∧ ∃ y ∈ unL, x.op = y) ∧ (x.kind = 7 → x.args.length = 2 ∧ ∃ y ∈ binL, x.op = y) ∧ (x.kind = 8 → x.args.length = 3) ∧ (x.kind = 9 → x.args.length = 2) := by
  have hb := h.nb
  have hn := h.nn
  unfold nodeB at hb
  unfold nodeN at hn
  refine ⟨fun e => ?_, fun e => ?_, fun e => ?_, fun e => ?_, fun e => ?_, fun e => ?_, fun e => ?_, fun e => ?_⟩
  all_goals grind
theorem par_le {x : Ex} (h : parOK x) : 0 ≤ x.param ∧ x.param ≤ 1073741824 := by
  unfold parOK at h
  repeat' split at h
  all_goals omega
theorem nodeText_ok (x : Ex) : ∀ ins, form ins x = true → x.size ≤ 100 → Pure Tryz.prog 32 [.agg x.row] (sv (text x)) := by
  induction x using Ex.ind with
  | h x ih =>
  intro ins hf hs
  have h := FOK.of hf
  have hk : Kids x 32 := by
    constructor
    · intro i hi
      have := Ex.size_lt (getD_mem hi)
      rw [tx_at hi]
      exact ih _ (getD_mem hi) _ (h.sub _ (getD_mem hi)) (by omega)
    · intro i hi
      have := Ex.size_lt (getD_mem hi)
      rw [tx_at hi]
      exact Nat.le_trans (text_size _ _ (h.sub _ (getD_mem hi))) (by omega)
  obtain ⟨p1, p2, p4, p5, p6, p7, p8, p9⟩ := parts h
  have hr := kinds_of h.nb
  refine text_disp x (text x) ?_
  rw [text_eq]
  unfold textF
  have : x.kind = 1 ∨ x.kind = 2 ∨ x.kind = 3 ∨ x.kind = 4 ∨ x.kind = 5 ∨ x.kind = 6 ∨ x.kind = 7 ∨ x.kind = 8 ∨ x.kind = 9 := by omega
  rcases this with e | e | e | e | e | e | e | e | e
  · rw [if_pos e]; exact .inl ⟨e, literal_ok x (p1 e).1⟩
  · simp only [e, Int.reduceEq, if_false]; exact .inr (.inl ⟨trivial, nameN_ok x⟩)
  · simp only [e, Int.reduceEq, if_false]; exact .inr (.inr (.inl ⟨trivial, nameN_ok x⟩))
  · simp only [e, Int.reduceEq, if_false, if_true]; exact .inr (.inr (.inr (.inl ⟨trivial, lookup_ok x hk (p4 e).2 (p4 e).1.1.1.2.1⟩)))
  · have hA := (p5 e).1
    obtain ⟨⟨y, hy, ho⟩, ht, hw, hp, -⟩ := hA
    have e1 := aggL_size y hy
    rw [← ho] at e1
    have hl := (p5 e).2
    have h1 := h.sub _ (getD_mem (i := 1) (by omega))
    rw [e] at h1
    simp only [e, Int.reduceEq, if_false, if_true]
    exact .inr (.inr (.inr (.inr (.inl ⟨trivial, aggregate_ok x hk hl e1 ht.1.2.1 hw (par_le hp) (by simpa using h1)⟩))))
  · simp only [e, Int.reduceEq, if_false, if_true]; exact .inr (.inr (.inr (.inr (.inr (.inl ⟨trivial, unary_ok x hk (p6 e).1⟩)))))
  · obtain ⟨hl, y, hy, ho⟩ := p7 e
    have e1 := binL_size y hy
    rw [← ho] at e1
    simp only [e, Int.reduceEq, if_false, if_true]
    exact .inr (.inr (.inr (.inr (.inr (.inr (.inl ⟨trivial, binary_ok x hk hl e1⟩))))))
  · simp only [e, Int.reduceEq, if_false, if_true]; exact .inr (.inr (.inr (.inr (.inr (.inr (.inr (.inl ⟨trivial, choice_ok x hk (p8 e)⟩)))))))
  · simp only [e, Int.reduceEq, if_false, if_true]; exact .inr (.inr (.inr (.inr (.inr (.inr (.inr (.inr ⟨trivial, fallback_ok x hk (p9 e)⟩)))))))
end Go.Proofs.YtklncofkcfjkeaaGreatDoor
