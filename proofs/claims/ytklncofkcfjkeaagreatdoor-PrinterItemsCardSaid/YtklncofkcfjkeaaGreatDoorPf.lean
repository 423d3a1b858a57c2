
/- Forms of expressions. -/
import Derived.Test.YtklncofkcfjkeaaGreatDoorPe
set_option linter.unusedSimpArgs false
set_option linter.unusedVariables false
set_option maxRecDepth 100000
namespace Go.Proofs.YtklncofkcfjkeaaGreatDoor
open Go.Sx Go.Proofs

end Go.Proofs.YtklncofkcfjkeaaGreatDoor
namespace Go.Sx
open Go.Proofs.YtklncofkcfjkeaaGreatDoor
theorem Wk.row {l : List Ex} {nn : Bool} : Wk (.sl nn 12 (l.map Ex.row)) (.sl nn 12 (l.map Ex.cells)) := by rw [Ex.cells_row]; exact Wk.refl _
end Go.Sx
namespace Go.Proofs.YtklncofkcfjkeaaGreatDoor
open Go.Sx Go.Proofs
def Ex.Flat (a b : Ex) : Prop := a.kind = b.kind ∧ a.op = b.op ∧ a.name = b.name ∧ a.table = b.table ∧ a.val = b.val ∧ a.unit = b.unit ∧ a.param = b.param ∧ a.win = b.win
instance (a b : Ex) : Decidable (a.Flat b) := inferInstanceAs (Decidable (_ ∧ _ ∧ _ ∧ _ ∧ _ ∧ _ ∧ _ ∧ _))
theorem val_eq {a b : Val} : a = b ↔ a.kind = b.kind ∧ a.n = b.n ∧ a.s = b.s := by cases a; cases b; simp
theorem win_eq {a b : Win} : a = b ↔ a.kind = b.kind ∧ a.size = b.size := by cases a; cases b; simp
theorem flat_ok (a b : Ex) : Pure Tryz.prog 33 [.agg a.row, .agg b.row] (.v (.bool (decide (a.Flat b)))) := by
  rw [Ex.row_eq a, Ex.row_eq b]
  refine Pure.runk (fun _ => 0) Tryz.func33 comp33 era33 (Nat.le_of_ble_eq_true rfl) fun σ => ?_
  repeat' (first | exact .nil | refine .k0 ?_ | refine .k1 ?_ | refine .k2 ?_ | refine .k3 ?_ | refine .k4 ?_ | refine .k5 ?_ | refine .k6 ?_ | refine .k7 ?_ | refine .k8 ?_ | refine .k9 ?_ | (refine .cd ?_ ?_ <;> first | with_reducible exact tF | with_reducible exact fT | (intro hc; first | exact kf hc (by assumption) | exact kt hc (by assumption) | skip)) | refine .r1 ?_ ?_ | (refine .l1 ?_; intro b) | (refine .m1 ?_ ?_; intro b) | (refine .m2 ?_ ?_; intro hlen) | (refine .m3 ?_ ?_; intro hlen) | refine .t1 ?_ ?_ ?_ | refine .t2 ?_ ?_ ?_ | refine .t3 ?_ ?_ ?_ | refine .t4 ?_ ?_ ?_ | (refine .l2 ?_; intro b) | refine .u1 ?_ ?_ ?_ (fun b u c => ?_) | refine .u2 ?_ ?_ ?_ (fun b u c => ?_) | refine .an rfl (by intro hob; first | exact same_ok _ _ | exact equal_ok _ _) ?_ ?_ | refine .t5 ?_ ?_ ?_ | refine .t6 ?_ ?_ ?_ | refine .t7 ?_ ?_ ?_ | refine .r2 ?_ ?_ | refine .r3 ?_ ?_ | refine .r4 ?_ ?_ | refine .r5 ?_ ?_ | (refine .l3 ?_; intro b) | refine .r6 ?_ ?_ | refine .r7 ?_ ?_ | refine .r8 ?_ ?_ | refine .r9 ?_ ?_ | refine .ra ?_ ?_ | (show List.all _ _ = true; rfl) | (show (_ : Nat) = _; rfl))
  try any_goals ((intro hob; first | (simp_all; done) | (simp only [BL] at *; first | (simp_all; done) | omega)))
  all_goals (try simp only [BL] at *)
  · refine Sx.Fin.intro (by repeat' first | exact .refl _ | refine .same ?_ | refine .cons ?_) (bd ?_)
    unfold Ex.Flat; rw [val_eq, win_eq]; grind
theorem bare_ok (a b : Ex) : Pure Tryz.prog 92 [.agg a.row, .agg b.row] (.v (.bool (decide (a.Flat b)))) := by
  rw [Ex.row_eq a, Ex.row_eq b]
  refine Pure.runk (fun _ => 0) Tryz.func92 comp92 era92 (Nat.le_of_ble_eq_true rfl) fun σ => ?_
  repeat' (first | exact .nil | refine .k0 ?_ | refine .k1 ?_ | refine .k2 ?_ | refine .k3 ?_ | refine .k4 ?_ | refine .k5 ?_ | refine .k6 ?_ | refine .k7 ?_ | refine .k8 ?_ | refine .k9 ?_ | (refine .cd ?_ ?_ <;> first | with_reducible exact tF | with_reducible exact fT | (intro hc; first | exact kf hc (by assumption) | exact kt hc (by assumption) | skip)) | refine .r1 ?_ ?_ | (refine .l1 ?_; intro b) | (refine .m1 ?_ ?_; intro b) | (refine .m2 ?_ ?_; intro hlen) | (refine .m3 ?_ ?_; intro hlen) | refine .t1 ?_ ?_ ?_ | refine .t2 ?_ ?_ ?_ | refine .t3 ?_ ?_ ?_ | refine .t4 ?_ ?_ ?_ | (refine .l2 ?_; intro b) | refine .u1 ?_ ?_ ?_ (fun b u c => ?_) | refine .u2 ?_ ?_ ?_ (fun b u c => ?_) | refine .an rfl (by intro hob; first | exact same_ok _ _ | exact equal_ok _ _) ?_ ?_ | refine .t5 ?_ ?_ ?_ | refine .t6 ?_ ?_ ?_ | refine .t7 ?_ ?_ ?_ | refine .r2 ?_ ?_ | refine .r3 ?_ ?_ | refine .r4 ?_ ?_ | refine .r5 ?_ ?_ | (refine .l3 ?_; intro b) | refine .r6 ?_ ?_ | refine .r7 ?_ ?_ | refine .r8 ?_ ?_ | refine .r9 ?_ ?_ | refine .ra ?_ ?_ | (show List.all _ _ = true; rfl) | (show (_ : Nat) = _; rfl))
  try any_goals ((intro hob; first | (simp_all; done) | (simp only [BL] at *; first | (simp_all; done) | omega)))
  all_goals (try simp only [BL] at *)
  · refine Sx.Fin.intro (by repeat' first | exact .refl _ | refine .same ?_ | refine .cons ?_) (bd ?_)
    unfold Ex.Flat; rw [val_eq, win_eq]; grind
/-- The literal true. -/
def tru : Ex := ⟨1, ⟨#[]⟩, ⟨#[]⟩, ⟨#[]⟩, ⟨1, 1, ⟨#[]⟩⟩, [], 0, ⟨0, 0⟩, []⟩
theorem true_ok : Pure Tryz.prog 26 [] (.agg tru.row) := by
  refine Pure.runk (fun _ => 0) Tryz.func26 comp26 era26 (Nat.le_of_ble_eq_true rfl) fun σ => ?_
  repeat' (first | exact .nil | refine .k0 ?_ | refine .k1 ?_ | refine .k2 ?_ | refine .k3 ?_ | refine .k4 ?_ | refine .k5 ?_ | refine .k6 ?_ | refine .k7 ?_ | refine .k8 ?_ | refine .k9 ?_ | (refine .cd ?_ ?_ <;> first | with_reducible exact tF | with_reducible exact fT | (intro hc; first | exact kf hc (by assumption) | exact kt hc (by assumption) | skip)) | refine .r1 ?_ ?_ | (refine .l1 ?_; intro b) | (refine .m1 ?_ ?_; intro b) | (refine .m2 ?_ ?_; intro hlen) | (refine .m3 ?_ ?_; intro hlen) | refine .t1 ?_ ?_ ?_ | refine .t2 ?_ ?_ ?_ | refine .t3 ?_ ?_ ?_ | refine .t4 ?_ ?_ ?_ | (refine .l2 ?_; intro b) | refine .u1 ?_ ?_ ?_ (fun b u c => ?_) | refine .u2 ?_ ?_ ?_ (fun b u c => ?_) | refine .an rfl (by intro hob; first | exact same_ok _ _ | exact equal_ok _ _) ?_ ?_ | refine .t5 ?_ ?_ ?_ | refine .t6 ?_ ?_ ?_ | refine .t7 ?_ ?_ ?_ | refine .r2 ?_ ?_ | refine .r3 ?_ ?_ | refine .r4 ?_ ?_ | refine .r5 ?_ ?_ | (refine .l3 ?_; intro b) | refine .r6 ?_ ?_ | refine .r7 ?_ ?_ | refine .r8 ?_ ?_ | refine .r9 ?_ ?_ | refine .ra ?_ ?_ | (show List.all _ _ = true; rfl) | (show (_ : Nat) = _; rfl))
  try any_goals ((intro hob; first | (simp_all; done) | (simp only [BL] at *; first | (simp_all; done) | omega)))
  all_goals (try simp only [BL] at *)
  · refine Sx.Fin.wk (by repeat' first | exact .refl _ | refine .same ?_ | refine .cons ?_) (Wk.agg ?_)
    show WkL _ tru.lay
    unfold Ex.lay
    repeat' first | exact .row | exact .refl _ | exact .nil | refine .cons ?_ ?_ | refine .tup ?_ | refine .agg ?_ | exact .sl | exact .own _
theorem aggregates_ok : Pure Tryz.prog 115 [] (.sl false 1 (aggL.map strRow)) := by
  refine Pure.runk (fun _ => 0) Tryz.func115 comp115 era115 (Nat.le_of_ble_eq_true rfl) fun σ => ?_
  repeat' (first | exact .nil | refine .k0 ?_ | refine .k1 ?_ | refine .k2 ?_ | refine .k3 ?_ | refine .k4 ?_ | refine .k5 ?_ | refine .k6 ?_ | refine .k7 ?_ | refine .k8 ?_ | refine .k9 ?_ | (refine .cd ?_ ?_ <;> first | with_reducible exact tF | with_reducible exact fT | (intro hc; first | exact kf hc (by assumption) | exact kt hc (by assumption) | skip)) | refine .r1 ?_ ?_ | (refine .l1 ?_; intro b) | (refine .m1 ?_ ?_; intro b) | (refine .m2 ?_ ?_; intro hlen) | (refine .m3 ?_ ?_; intro hlen) | refine .t1 ?_ ?_ ?_ | refine .t2 ?_ ?_ ?_ | refine .t3 ?_ ?_ ?_ | refine .t4 ?_ ?_ ?_ | (refine .l2 ?_; intro b) | refine .u1 ?_ ?_ ?_ (fun b u c => ?_) | refine .u2 ?_ ?_ ?_ (fun b u c => ?_) | refine .an rfl (by intro hob; first | exact same_ok _ _ | exact equal_ok _ _) ?_ ?_ | refine .t5 ?_ ?_ ?_ | refine .t6 ?_ ?_ ?_ | refine .t7 ?_ ?_ ?_ | refine .r2 ?_ ?_ | refine .r3 ?_ ?_ | refine .r4 ?_ ?_ | refine .r5 ?_ ?_ | (refine .l3 ?_; intro b) | refine .r6 ?_ ?_ | refine .r7 ?_ ?_ | refine .r8 ?_ ?_ | refine .r9 ?_ ?_ | refine .ra ?_ ?_ | (show List.all _ _ = true; rfl) | (show (_ : Nat) = _; rfl))
  try any_goals ((intro hob; first | (simp_all; done) | (simp only [BL] at *; first | (simp_all; done) | omega)))
  all_goals (try simp only [BL] at *)
  · decide
  · refine Sx.Fin.wk (by repeat' first | exact .refl _ | refine .same ?_ | refine .cons ?_) ?_
    exact Wk.sl
theorem operators_ok : Pure Tryz.prog 89 [] (.sl false 1 (binL.map strRow)) := by
  refine Pure.runk (fun _ => 0) Tryz.func89 comp89 era89 (Nat.le_of_ble_eq_true rfl) fun σ => ?_
  repeat' (first | exact .nil | refine .k0 ?_ | refine .k1 ?_ | refine .k2 ?_ | refine .k3 ?_ | refine .k4 ?_ | refine .k5 ?_ | refine .k6 ?_ | refine .k7 ?_ | refine .k8 ?_ | refine .k9 ?_ | (refine .cd ?_ ?_ <;> first | with_reducible exact tF | with_reducible exact fT | (intro hc; first | exact kf hc (by assumption) | exact kt hc (by assumption) | skip)) | refine .r1 ?_ ?_ | (refine .l1 ?_; intro b) | (refine .m1 ?_ ?_; intro b) | (refine .m2 ?_ ?_; intro hlen) | (refine .m3 ?_ ?_; intro hlen) | refine .t1 ?_ ?_ ?_ | refine .t2 ?_ ?_ ?_ | refine .t3 ?_ ?_ ?_ | refine .t4 ?_ ?_ ?_ | (refine .l2 ?_; intro b) | refine .u1 ?_ ?_ ?_ (fun b u c => ?_) | refine .u2 ?_ ?_ ?_ (fun b u c => ?_) | refine .an rfl (by intro hob; first | exact same_ok _ _ | exact equal_ok _ _) ?_ ?_ | refine .t5 ?_ ?_ ?_ | refine .t6 ?_ ?_ ?_ | refine .t7 ?_ ?_ ?_ | refine .r2 ?_ ?_ | refine .r3 ?_ ?_ | refine .r4 ?_ ?_ | refine .r5 ?_ ?_ | (refine .l3 ?_; intro b) | refine .r6 ?_ ?_ | refine .r7 ?_ ?_ | refine .r8 ?_ ?_ | refine .r9 ?_ ?_ | refine .ra ?_ ?_ | (show List.all _ _ = true; rfl) | (show (_ : Nat) = _; rfl))
  try any_goals ((intro hob; first | (simp_all; done) | (simp only [BL] at *; first | (simp_all; done) | omega)))
  all_goals (try simp only [BL] at *)
  · decide
  · refine Sx.Fin.wk (by repeat' first | exact .refl _ | refine .same ?_ | refine .cons ?_) ?_
    exact Wk.sl
def winOK (w : Win) : Prop := (w.kind = 1 ∧ w.size = 0) ∨ (1 < w.kind ∧ w.kind ≤ 4 ∧ 1 ≤ w.size ∧ w.size ≤ 1099511627776)
instance (w : Win) : Decidable (winOK w) := inferInstanceAs (Decidable (_ ∨ _ ∧ _ ∧ _ ∧ _))
theorem windowR_ok (w : Win) : Pure Tryz.prog 116 [.agg w.cells] (.v (.bool (decide (winOK w)))) := by
  refine Pure.runk (fun _ => 0) Tryz.func116 comp116 era116 (Nat.le_of_ble_eq_true rfl) fun σ => ?_
  repeat' (first | exact .nil | refine .k0 ?_ | refine .k1 ?_ | refine .k2 ?_ | refine .k3 ?_ | refine .k4 ?_ | refine .k5 ?_ | refine .k6 ?_ | refine .k7 ?_ | refine .k8 ?_ | refine .k9 ?_ | (refine .cd ?_ ?_ <;> first | with_reducible exact tF | with_reducible exact fT | (intro hc; first | exact kf hc (by assumption) | exact kt hc (by assumption) | skip)) | refine .r1 ?_ ?_ | (refine .l1 ?_; intro b) | (refine .m1 ?_ ?_; intro b) | (refine .m2 ?_ ?_; intro hlen) | (refine .m3 ?_ ?_; intro hlen) | refine .t1 ?_ ?_ ?_ | refine .t2 ?_ ?_ ?_ | refine .t3 ?_ ?_ ?_ | refine .t4 ?_ ?_ ?_ | (refine .l2 ?_; intro b) | refine .u1 ?_ ?_ ?_ (fun b u c => ?_) | refine .u2 ?_ ?_ ?_ (fun b u c => ?_) | refine .an rfl (by intro hob; first | exact same_ok _ _ | exact equal_ok _ _) ?_ ?_ | refine .t5 ?_ ?_ ?_ | refine .t6 ?_ ?_ ?_ | refine .t7 ?_ ?_ ?_ | refine .r2 ?_ ?_ | refine .r3 ?_ ?_ | refine .r4 ?_ ?_ | refine .r5 ?_ ?_ | (refine .l3 ?_; intro b) | refine .r6 ?_ ?_ | refine .r7 ?_ ?_ | refine .r8 ?_ ?_ | refine .r9 ?_ ?_ | refine .ra ?_ ?_ | (show List.all _ _ = true; rfl) | (show (_ : Nat) = _; rfl))
  try any_goals ((intro hob; first | (simp_all; done) | (simp only [BL] at *; first | (simp_all; done) | omega)))
  all_goals (try simp only [BL] at *)
  all_goals (refine Sx.Fin.intro (by repeat' first | exact .refl _ | refine .same ?_ | refine .cons ?_) (bd ?_); unfold winOK; grind)
def litEx (x : Ex) : Ex := ⟨1, ⟨#[]⟩, x.name, ⟨#[]⟩, x.val, x.unit, 0, ⟨0, 0⟩, []⟩
def litOK (x : Ex) : Prop := valErr x.val = 0 ∧ 0 ≤ x.val.n ∧ tyErr ⟨x.val.kind, x.unit, x.name⟩ = 0 ∧ x.Flat (litEx x)
instance (x : Ex) : Decidable (litOK x) := inferInstanceAs (Decidable (_ ∧ _ ∧ _ ∧ _))
theorem literalR_ok (x : Ex) : Pure Tryz.prog 86 [.agg x.row] (.v (.bool (decide (litOK x)))) := by
  rw [Ex.row_eq x]
  refine Pure.runk (fun _ => 0) Tryz.func86 comp86 era86 (Nat.le_of_ble_eq_true rfl) fun σ => ?_
  repeat' (first | exact .nil | refine .k0 ?_ | refine .k1 ?_ | refine .k2 ?_ | refine .k3 ?_ | refine .k4 ?_ | refine .k5 ?_ | refine .k6 ?_ | refine .k7 ?_ | refine .k8 ?_ | refine .k9 ?_ | (refine .cd ?_ ?_ <;> first | with_reducible exact tF | with_reducible exact fT | (intro hc; first | exact kf hc (by assumption) | exact kt hc (by assumption) | skip)) | refine .r1 ?_ ?_ | (refine .l1 ?_; intro b) | (refine .m1 ?_ ?_; intro b) | (refine .m2 ?_ ?_; intro hlen) | (refine .m3 ?_ ?_; intro hlen) | refine .t1 ?_ ?_ ?_ | refine .t2 ?_ ?_ ?_ | refine .t3 ?_ ?_ ?_ | refine .t4 ?_ ?_ ?_ | (refine .l2 ?_; intro b) | refine .u1 ?_ ?_ ?_ (fun b u c => ?_) | refine .u2 ?_ ?_ ?_ (fun b u c => ?_) | refine .an rfl (by intro hob; first | exact valueR_ok _ | exact typeR_ok ⟨x.val.kind, x.unit, x.name⟩ | (refine (flat_ok x (litEx x)).wk ?_; (repeat' first | exact .row | exact .refl _ | exact .nil | refine .cons ?_ ?_ | refine .tup ?_ | refine .agg ?_ | exact .sl | exact .own _); done)) ?_ ?_ | refine .t5 ?_ ?_ ?_ | refine .t6 ?_ ?_ ?_ | refine .t7 ?_ ?_ ?_ | refine .r2 ?_ ?_ | refine .r3 ?_ ?_ | refine .r4 ?_ ?_ | refine .r5 ?_ ?_ | (refine .l3 ?_; intro b) | refine .r6 ?_ ?_ | refine .r7 ?_ ?_ | refine .r8 ?_ ?_ | refine .r9 ?_ ?_ | refine .ra ?_ ?_ | (show List.all _ _ = true; rfl) | (show (_ : Nat) = _; rfl))
  try any_goals ((intro hob; first | (simp_all; done) | (simp only [BL] at *; first | (simp_all; done) | omega)))
  all_goals (try simp only [BL] at *)
  all_goals (refine Sx.Fin.intro (by repeat' first | exact .refl _ | refine .same ?_ | refine .cons ?_) (bd ?_); unfold litOK; grind)
def aggEx (x : Ex) : Ex := ⟨5, x.op, ⟨#[]⟩, x.table, ⟨0, 0, ⟨#[]⟩⟩, [], x.param, x.win, []⟩
def parOK (x : Ex) : Prop := if x.op = ⟨#[113, 117, 97, 110, 116, 105, 108, 101]⟩ then 1 ≤ x.param ∧ x.param ≤ 1000 else if x.op = ⟨#[100, 101, 99, 97, 121]⟩ then 1 ≤ x.param ∧ x.param ≤ 1073741824 else x.param = 0
instance (x : Ex) : Decidable (parOK x) := by unfold parOK; infer_instance
def aggOK (x : Ex) : Prop := (∃ y ∈ aggL, x.op = y) ∧ Name x.table ∧ winOK x.win ∧ parOK x ∧ x.Flat (aggEx x)
instance (x : Ex) : Decidable (aggOK x) := inferInstanceAs (Decidable (_ ∧ _ ∧ _ ∧ _ ∧ _))
theorem aggregateR_ok (x : Ex) : Pure Tryz.prog 87 [.agg x.row] (.v (.bool (decide (aggOK x)))) := by
  rw [Ex.row_eq x]
  refine Pure.runk (fun _ => 0) Tryz.func87 comp87 era87 (Nat.le_of_ble_eq_true rfl) fun σ => ?_
  repeat' (first | exact .nil | refine .k0 ?_ | refine .k1 ?_ | refine .k2 ?_ | refine .k3 ?_ | refine .k4 ?_ | refine .k5 ?_ | refine .k6 ?_ | refine .k7 ?_ | refine .k8 ?_ | refine .k9 ?_ | (refine .cd ?_ ?_ <;> first | with_reducible exact tF | with_reducible exact fT | (intro hc; first | exact kf hc (by assumption) | exact kt hc (by assumption) | skip)) | refine .r1 ?_ ?_ | (refine .l1 ?_; intro b) | (refine .m1 ?_ ?_; intro b) | (refine .m2 ?_ ?_; intro hlen) | (refine .m3 ?_ ?_; intro hlen) | refine .t1 ?_ ?_ ?_ | refine .t2 ?_ ?_ ?_ | refine .t3 ?_ ?_ ?_ | refine .t4 ?_ ?_ ?_ | (refine .l2 ?_; intro b) | refine .u1 ?_ ?_ ?_ (fun b u c => ?_) | refine .u2 ?_ ?_ ?_ (fun b u c => ?_) | refine .an rfl (by intro hob; first | exact nameR_ok _ | exact windowR_ok x.win | exact aggregates_ok | exact one_ok aggL x.op | (refine (flat_ok x (aggEx x)).wk ?_; (repeat' first | exact .row | exact .refl _ | exact .nil | refine .cons ?_ ?_ | refine .tup ?_ | refine .agg ?_ | exact .sl | exact .own _); done)) ?_ ?_ | refine .t5 ?_ ?_ ?_ | refine .t6 ?_ ?_ ?_ | refine .t7 ?_ ?_ ?_ | refine .r2 ?_ ?_ | refine .r3 ?_ ?_ | refine .r4 ?_ ?_ | refine .r5 ?_ ?_ | (refine .l3 ?_; intro b) | refine .r6 ?_ ?_ | refine .r7 ?_ ?_ | refine .r8 ?_ ?_ | refine .r9 ?_ ?_ | refine .ra ?_ ?_ | (show List.all _ _ = true; rfl) | (show (_ : Nat) = _; rfl))
  try any_goals ((intro hob; first | (simp_all; done) | (simp only [BL] at *; first | (simp_all; done) | omega)))
  all_goals (try simp only [BL] at *)
  all_goals (refine Sx.Fin.intro (by repeat' first | exact .refl _ | refine .same ?_ | refine .cons ?_) (bd ?_); unfold aggOK parOK; have hqd : (⟨#[113, 117, 97, 110, 116, 105, 108, 101]⟩ : Str) ≠ ⟨#[100, 101, 99, 97, 121]⟩ := by decide
             first | grind | (simp only [if_true, if_false] at hc; grind))
def namEx (x : Ex) : Ex := ⟨x.kind, ⟨#[]⟩, x.name, ⟨#[]⟩, ⟨0, 0, ⟨#[]⟩⟩, [], 0, ⟨0, 0⟩, []⟩
def opEx (x : Ex) : Ex := ⟨x.kind, x.op, ⟨#[]⟩, ⟨#[]⟩, ⟨0, 0, ⟨#[]⟩⟩, [], 0, ⟨0, 0⟩, []⟩
def namOK (x : Ex) : Prop := Name x.name ∧ x.Flat (namEx x)
instance (x : Ex) : Decidable (namOK x) := inferInstanceAs (Decidable (_ ∧ _))
def nodeN (x : Ex) : Int := if x.kind = 4 ∨ x.kind = 6 then 1 else if x.kind = 5 ∨ x.kind = 7 ∨ x.kind = 9 then 2 else if x.kind = 8 then 3 else 0
def nodeB (x : Ex) (ins : Bool) : Prop :=
  if x.kind = 1 then litOK x else if x.kind = 2 then ins = true ∧ namOK x else if x.kind = 3 ∨ x.kind = 4 then ins = false ∧ namOK x
  else if x.kind = 5 then ins = false ∧ aggOK x else if x.kind = 6 then x.Flat (opEx x) ∧ ∃ y ∈ unL, x.op = y
  else if x.kind = 7 then x.Flat (opEx x) ∧ ∃ y ∈ binL, x.op = y else if x.kind = 8 ∨ x.kind = 9 then x.Flat (opEx x) ∧ x.op = ⟨#[]⟩ else False
instance (x : Ex) (ins : Bool) : Decidable (nodeB x ins) := by unfold nodeB; infer_instance
theorem bt2 {n m : Int} {b : Bool} {p : Prop} [Decidable p] (h1 : n = m) (h2 : b = true ↔ p) : AV.tup [.v (.int .i64 n), .v (.bool b)] = .tup [iv m, .v (.bool (decide p))] := by rw [h1, bd h2]
theorem nodeR_ok (x : Ex) (ins : Bool) : Pure Tryz.prog 52 [.agg x.row, .v (.bool ins)] (.tup [iv (nodeN x), .v (.bool (decide (nodeB x ins)))]) := by
  rw [Ex.row_eq x]
  refine Pure.runk (fun _ => 0) Tryz.func52 comp52 era52 (Nat.le_of_ble_eq_true rfl) fun σ => ?_
  repeat' (first | exact .nil | refine .k0 ?_ | refine .k1 ?_ | refine .k2 ?_ | refine .k3 ?_ | refine .k4 ?_ | refine .k5 ?_ | refine .k6 ?_ | refine .k7 ?_ | refine .k8 ?_ | refine .k9 ?_ | (refine .cd ?_ ?_ <;> first | with_reducible exact tF | with_reducible exact fT | (intro hc; first | exact kf hc (by assumption) | exact kt hc (by assumption) | skip)) | refine .r1 ?_ ?_ | (refine .l1 ?_; intro b) | (refine .m1 ?_ ?_; intro b) | (refine .m2 ?_ ?_; intro hlen) | (refine .m3 ?_ ?_; intro hlen) | refine .t1 ?_ ?_ ?_ | refine .t2 ?_ ?_ ?_ | refine .t3 ?_ ?_ ?_ | refine .t4 ?_ ?_ ?_ | (refine .l2 ?_; intro b) | refine .u1 ?_ ?_ ?_ (fun b u c => ?_) | refine .u2 ?_ ?_ ?_ (fun b u c => ?_) | refine .an rfl (by intro hob; first | exact nameR_ok _ | (refine (literalR_ok x).wk ?_; (repeat' first | exact .row | exact .refl _ | exact .nil | refine .cons ?_ ?_ | refine .tup ?_ | refine .agg ?_ | exact .sl | exact .own _); done) | (refine (aggregateR_ok x).wk ?_; (repeat' first | exact .row | exact .refl _ | exact .nil | refine .cons ?_ ?_ | refine .tup ?_ | refine .agg ?_ | exact .sl | exact .own _); done) | exact operators_ok | exact one_ok binL x.op | exact one_ok unL x.op | (refine (one_ok unL x.op).wk ?_; (repeat' first | exact .row | exact .refl _ | exact .nil | refine .cons ?_ ?_ | refine .tup ?_ | refine .agg ?_ | exact .sl | exact .own _); done) | (refine (flat_ok x (namEx x)).wk ?_; (repeat' first | exact .row | exact .refl _ | exact .nil | refine .cons ?_ ?_ | refine .tup ?_ | refine .agg ?_ | exact .sl | exact .own _); done) | (refine (flat_ok x (opEx x)).wk ?_; (repeat' first | exact .row | exact .refl _ | exact .nil | refine .cons ?_ ?_ | refine .tup ?_ | refine .agg ?_ | exact .sl | exact .own _); done)) ?_ ?_ | refine .t5 ?_ ?_ ?_ | refine .t6 ?_ ?_ ?_ | refine .t7 ?_ ?_ ?_ | refine .r2 ?_ ?_ | refine .r3 ?_ ?_ | refine .r4 ?_ ?_ | refine .r5 ?_ ?_ | (refine .l3 ?_; intro b) | refine .r6 ?_ ?_ | refine .r7 ?_ ?_ | refine .r8 ?_ ?_ | refine .r9 ?_ ?_ | refine .ra ?_ ?_ | (show List.all _ _ = true; rfl) | (show (_ : Nat) = _; rfl))
  try any_goals ((intro hob; first | (simp_all; done) | (simp only [BL] at *; first | (simp_all; done) | omega)))
  all_goals (try simp only [BL] at *)
  all_goals (refine Sx.Fin.intro (by repeat' first | exact .refl _ | refine .same ?_ | refine .cons ?_) (bt2 ?_ ?_) <;> grind [nodeN, nodeB, namOK])

mutual
def Ex.eqB : Ex → Ex → Bool
  | .mk k o n t v u p w ks, .mk k' o' n' t' v' u' p' w' ks' => decide (k = k' ∧ o = o' ∧ n = n' ∧ t = t' ∧ v = v' ∧ u = u' ∧ p = p' ∧ w = w') && Ex.eqL ks ks'
def Ex.eqL : List Ex → List Ex → Bool
  | [], [] => true
  | x :: l, y :: m => x.eqB y && Ex.eqL l m
  | [], _ :: _ => false
  | _ :: _, [] => false
end
mutual
theorem Ex.eqB_iff : ∀ a b : Ex, a.eqB b = true ↔ a = b
  | .mk k o n t v u p w ks, .mk k' o' n' t' v' u' p' w' ks' => by
    rw [Ex.eqB, Bool.and_eq_true, decide_eq_true_eq, Ex.eqL_iff ks ks', Ex.mk.injEq]
    simp only [and_assoc]
theorem Ex.eqL_iff : ∀ a b : List Ex, Ex.eqL a b = true ↔ a = b
  | [], [] => by simp [Ex.eqL]
  | x :: l, y :: m => by rw [Ex.eqL, Bool.and_eq_true, Ex.eqB_iff x y, Ex.eqL_iff l m, List.cons.injEq]
  | [], _ :: _ => by simp [Ex.eqL]
  | _ :: _, [] => by simp [Ex.eqL]
end
instance : DecidableEq Ex := fun a b => decidable_of_iff _ (Ex.eqB_iff a b)
theorem Ex.eq_iff {a b : Ex} : a = b ↔ a.Flat b ∧ a.args = b.args := by
  cases a; cases b
  simp only [Ex.mk.injEq, Ex.Flat, Ex.kind, Ex.op, Ex.name, Ex.table, Ex.val, Ex.unit, Ex.param, Ex.win, Ex.args, and_assoc]
theorem sameExpr_ok (x : Ex) : ∀ e : Ex, Pure Tryz.prog 10 [.agg x.row, .agg e.row] (.v (.bool (decide (x = e)))) := by
  induction x using Ex.ind with
  | h x ih =>
  intro e
  have ih' := ih
  rw [Ex.row_eq x, Ex.row_eq e]
  refine Pure.runk (fun _ => 0) Tryz.func10 comp10 era10 (Nat.le_of_ble_eq_true rfl) fun σ => ?_
  repeat' (first | exact .nil | refine .k0 ?_ | refine .k1 ?_ | refine .k2 ?_ | refine .k3 ?_ | refine .k4 ?_ | refine .k5 ?_ | refine .k6 ?_ | refine .k7 ?_ | refine .k8 ?_ | refine .k9 ?_ | (refine .cd ?_ ?_ <;> first | with_reducible exact tF | with_reducible exact fT | (intro hc; first | exact kf hc (by assumption) | exact kt hc (by assumption) | skip)) | refine .r1 ?_ ?_ | (refine .l1 ?_; intro b) | (refine .m1 ?_ ?_; intro b) | (refine .m2 ?_ ?_; intro hlen) | (refine .m3 ?_ ?_; intro hlen) | refine .t1 ?_ ?_ ?_ | refine .t2 ?_ ?_ ?_ | refine .t3 ?_ ?_ ?_ | refine .t4 ?_ ?_ ?_ | (refine .l2 ?_; intro b) | refine .u1 ?_ ?_ ?_ (fun b u c => ?_) | refine .u2 ?_ ?_ ?_ (fun b u c => ?_) | refine .an rfl (by intro hob; first | (refine (flat_ok x e).wk ?_; (repeat' first | exact .row | exact .refl _ | exact .nil | refine .cons ?_ ?_ | refine .tup ?_ | refine .agg ?_ | exact .sl | exact .own _); done) | exact ih' (x.args.getD i default) (getD_mem (by first | omega | (simp only [BL] at *; omega))) (e.args.getD i default)) ?_ ?_ | refine .t5 ?_ ?_ ?_ | refine .t6 ?_ ?_ ?_ | refine .t7 ?_ ?_ ?_ | refine .r2 ?_ ?_ | refine .r3 ?_ ?_ | refine .r4 ?_ ?_ | refine .r5 ?_ ?_ | (refine .l3 ?_; intro b) | refine .r6 ?_ ?_ | refine .r7 ?_ ?_ | refine .r8 ?_ ?_ | refine .r9 ?_ ?_ | refine .ra ?_ ?_ | (show List.all _ _ = true; rfl) | (show (_ : Nat) = _; rfl))
  try any_goals ((intro hob; first | (simp_all; done) | (simp only [BL] at *; first | (simp_all; done) | omega)))
  all_goals (try simp only [BL] at *)
  · refine Sx.Fin.intro (by repeat' first | exact .refl _ | refine .same ?_ | refine .cons ?_) (bf ?_)
    intro h
    rw [h] at hc
    rcases hc with hc | hc
    · exact hc (by unfold Ex.Flat; grind)
    · exact hc rfl
  rename_i b0 hl0
  refine WK_loop (fun n rg σ' => ∃ i : Nat, i ≤ x.args.length ∧ n = x.args.length - i ∧ (∀ j, j < i → x.args.getD j default = e.args.getD j default) ∧ σ' = (3, b, Blk.cells e.lay) :: (2, b0, Blk.cells x.lay) :: σ ∧ rg = [(2, .lp 2 b0 0), (3, .lp 3 b 0), (5, iv i)]) x.args.length rfl ⟨_, _, by repeat' first | exact .row | exact .refl _ | exact .nil | refine .cons ?_ ?_ | refine .tup ?_ | refine .agg ?_ | exact .sl | exact .own _ | exact .tag, by repeat' first | exact .refl _ | refine .same ?_ | refine .cons ?_, 0, Nat.zero_le _, rfl, fun j hj => absurd hj (by omega), rfl, rfl⟩ ?_
  rintro n _ _ ⟨i, hi, hn, hp, rfl, rfl⟩
  repeat' (first | exact .nil | refine .k0 ?_ | refine .k1 ?_ | refine .k2 ?_ | refine .k3 ?_ | refine .k4 ?_ | refine .k5 ?_ | refine .k6 ?_ | refine .k7 ?_ | refine .k8 ?_ | refine .k9 ?_ | (refine .cd ?_ ?_ <;> first | with_reducible exact tF | with_reducible exact fT | (intro hc; first | exact kf hc (by assumption) | exact kt hc (by assumption) | skip)) | refine .r1 ?_ ?_ | (refine .l1 ?_; intro b) | (refine .m1 ?_ ?_; intro b) | (refine .m2 ?_ ?_; intro hlen) | (refine .m3 ?_ ?_; intro hlen) | refine .t1 ?_ ?_ ?_ | refine .t2 ?_ ?_ ?_ | refine .t3 ?_ ?_ ?_ | refine .t4 ?_ ?_ ?_ | (refine .l2 ?_; intro b) | refine .u1 ?_ ?_ ?_ (fun b u c => ?_) | refine .u2 ?_ ?_ ?_ (fun b u c => ?_) | refine .an rfl (by intro hob; first | (refine (flat_ok x e).wk ?_; (repeat' first | exact .row | exact .refl _ | exact .nil | refine .cons ?_ ?_ | refine .tup ?_ | refine .agg ?_ | exact .sl | exact .own _); done) | exact ih' (x.args.getD i default) (getD_mem (by first | omega | (simp only [BL] at *; omega))) (e.args.getD i default)) ?_ ?_ | refine .t5 ?_ ?_ ?_ | refine .t6 ?_ ?_ ?_ | refine .t7 ?_ ?_ ?_ | refine .r2 ?_ ?_ | refine .r3 ?_ ?_ | refine .r4 ?_ ?_ | refine .r5 ?_ ?_ | (refine .l3 ?_; intro b) | refine .r6 ?_ ?_ | refine .r7 ?_ ?_ | refine .r8 ?_ ?_ | refine .r9 ?_ ?_ | refine .ra ?_ ?_ | (show List.all _ _ = true; rfl) | (show (_ : Nat) = _; rfl))
  try any_goals ((intro hob; first | (simp_all; done) | (simp only [BL] at *; first | (simp_all; done) | omega)))
  all_goals (try simp only [BL] at *)
  · refine Sx.Fin.intro (by repeat' first | exact .refl _ | refine .same ?_ | refine .cons ?_) (bf ?_)
    rintro rfl; exact hc rfl
  · refine ⟨x.args.length - (i + 1), by omega, _, _, by repeat' first | exact .row | exact .refl _ | exact .nil | refine .cons ?_ ?_ | refine .tup ?_ | refine .agg ?_ | exact .sl | exact .own _ | exact .tag, by repeat' first | exact .refl _ | refine .same ?_ | refine .cons ?_, i + 1, by omega, rfl, cons_lt hp hc, rfl, by rw [up1 (by omega) hlen]⟩
  · refine Sx.Fin.intro (by repeat' first | exact .refl _ | refine .same ?_ | refine .cons ?_) (bt ?_)
    rename_i h1
    exact Ex.eq_iff.2 ⟨h1.1, eq_of_getD (by omega) (fun j hj => hp j (by omega))⟩
theorem bq {b c : Bool} (h : b = true ↔ c = true) : AV.v (.bool b) = AV.v (.bool c) := by rw [Bool.eq_iff_iff.2 h]
def cnt : Str := ⟨#[99, 111, 117, 110, 116]⟩
mutual
def form : Bool → Ex → Bool
  | ins, .mk k o n t v u p w ks => decide (nodeB (.mk k o n t v u p w ks) ins) && decide ((ks.length : Int) = nodeN (.mk k o n t v u p w ks)) && formL (ins || decide (k = 5)) ks && (decide (¬ (k = 5 ∧ o = cnt)) || decide (ks.getD 0 default = tru))
def formL : Bool → List Ex → Bool
  | _, [] => true
  | ins, x :: l => form ins x && formL ins l
end
theorem formL_iff (ins : Bool) : ∀ l : List Ex, formL ins l = true ↔ ∀ x ∈ l, form ins x = true
  | [] => by simp [formL]
  | x :: l => by simp [formL, formL_iff ins l]
theorem form_iff (ins : Bool) (x : Ex) : form ins x = true ↔ nodeB x ins ∧ (x.args.length : Int) = nodeN x ∧ (∀ y ∈ x.args, form (ins || decide (x.kind = 5)) y = true) ∧ (x.kind = 5 → x.op = cnt → x.args.getD 0 default = tru) := by
  cases x
  rw [form]
  simp only [Bool.and_eq_true, Bool.or_eq_true, decide_eq_true_eq, formL_iff, Ex.args, Ex.kind, Ex.op]
  constructor
  · rintro ⟨⟨⟨h1, h2⟩, h3⟩, h4⟩
    exact ⟨h1, h2, h3, fun a b => h4.resolve_left fun h => h ⟨a, b⟩⟩
  · rintro ⟨h1, h2, h3, h4⟩
    refine ⟨⟨⟨h1, h2⟩, h3⟩, Decidable.or_iff_not_imp_left.2 fun h => ?_⟩
    have := Decidable.not_not.1 h
    exact h4 this.1 this.2
theorem formR_ok (x : Ex) : ∀ ins, Pure Tryz.prog 30 [.agg x.row, .v (.bool ins)] (.v (.bool (form ins x))) := by
  induction x using Ex.ind with
  | h x ih =>
  intro ins
  have ih' := ih
  rw [Ex.row_eq x]
  refine Pure.runk (fun _ => 0) Tryz.func30 comp30 era30 (Nat.le_of_ble_eq_true rfl) fun σ => ?_
  repeat' (first | exact .nil | refine .k0 ?_ | refine .k1 ?_ | refine .k2 ?_ | refine .k3 ?_ | refine .k4 ?_ | refine .k5 ?_ | refine .k6 ?_ | refine .k7 ?_ | refine .k8 ?_ | refine .k9 ?_ | (refine .cd ?_ ?_ <;> first | with_reducible exact tF | with_reducible exact fT | (intro hc; first | exact kf hc (by assumption) | exact kt hc (by assumption) | skip)) | refine .r1 ?_ ?_ | (refine .l1 ?_; intro b) | (refine .m1 ?_ ?_; intro b) | (refine .m2 ?_ ?_; intro hlen) | (refine .m3 ?_ ?_; intro hlen) | refine .t1 ?_ ?_ ?_ | refine .t2 ?_ ?_ ?_ | refine .t3 ?_ ?_ ?_ | refine .t4 ?_ ?_ ?_ | (refine .l2 ?_; intro b) | refine .u1 ?_ ?_ ?_ (fun b u c => ?_) | refine .u2 ?_ ?_ ?_ (fun b u c => ?_) | refine .an rfl (by intro hob; first | exact sameExpr_ok _ _ | exact true_ok | (refine (nodeR_ok x ins).wk ?_; (repeat' first | exact .row | exact .refl _ | exact .nil | refine .cons ?_ ?_ | refine .tup ?_ | refine .agg ?_ | exact .sl | exact .own _); done) | exact ih' (x.args.getD i default) (getD_mem (by first | omega | (simp only [BL] at *; omega))) _ | exact sameExpr_ok (x.args.getD 0 default) tru) ?_ ?_ | refine .t5 ?_ ?_ ?_ | refine .t6 ?_ ?_ ?_ | refine .t7 ?_ ?_ ?_ | refine .r2 ?_ ?_ | refine .r3 ?_ ?_ | refine .r4 ?_ ?_ | refine .r5 ?_ ?_ | (refine .l3 ?_; intro b) | refine .r6 ?_ ?_ | refine .r7 ?_ ?_ | refine .r8 ?_ ?_ | refine .r9 ?_ ?_ | refine .ra ?_ ?_ | (show List.all _ _ = true; rfl) | (show (_ : Nat) = _; rfl))
  try any_goals ((intro hob; first | (simp_all; done) | (simp only [BL] at *; first | (simp_all; done) | omega)))
  all_goals (try simp only [BL] at *)
  · refine Sx.Fin.intro (by repeat' first | exact .refl _ | refine .same ?_ | refine .cons ?_) (bq ?_)
    rw [form_iff]
    grind
  refine WK_loop (fun n rg σ' => ∃ i : Nat, i ≤ x.args.length ∧ n = x.args.length - i ∧ (∀ j, j < i → form (ins || decide (x.kind = 5)) (x.args.getD j default) = true) ∧ σ' = (2, b, Blk.cells x.lay) :: σ ∧ rg = [(1, .v (.bool ins)), (2, .lp 2 b 0), (5, iv (nodeN x)), (7, iv i)]) x.args.length rfl ⟨_, _, by repeat' first | exact .row | exact .refl _ | exact .nil | refine .cons ?_ ?_ | refine .tup ?_ | refine .agg ?_ | exact .sl | exact .own _ | exact .tag, by repeat' first | exact .refl _ | refine .same ?_ | refine .cons ?_, 0, Nat.zero_le _, rfl, fun j hj => absurd hj (by omega), rfl, rfl⟩ ?_
  rintro n _ _ ⟨i, hi, hn, hp, rfl, rfl⟩
  repeat' (first | exact .nil | refine .k0 ?_ | refine .k1 ?_ | refine .k2 ?_ | refine .k3 ?_ | refine .k4 ?_ | refine .k5 ?_ | refine .k6 ?_ | refine .k7 ?_ | refine .k8 ?_ | refine .k9 ?_ | (refine .cd ?_ ?_ <;> first | with_reducible exact tF | with_reducible exact fT | (intro hc; first | exact kf hc (by assumption) | exact kt hc (by assumption) | skip)) | refine .r1 ?_ ?_ | (refine .l1 ?_; intro b) | (refine .m1 ?_ ?_; intro b) | (refine .m2 ?_ ?_; intro hlen) | (refine .m3 ?_ ?_; intro hlen) | refine .t1 ?_ ?_ ?_ | refine .t2 ?_ ?_ ?_ | refine .t3 ?_ ?_ ?_ | refine .t4 ?_ ?_ ?_ | (refine .l2 ?_; intro b) | refine .u1 ?_ ?_ ?_ (fun b u c => ?_) | refine .u2 ?_ ?_ ?_ (fun b u c => ?_) | refine .an rfl (by intro hob; first | exact sameExpr_ok _ _ | exact true_ok | (refine (nodeR_ok x ins).wk ?_; (repeat' first | exact .row | exact .refl _ | exact .nil | refine .cons ?_ ?_ | refine .tup ?_ | refine .agg ?_ | exact .sl | exact .own _); done) | exact ih' (x.args.getD i default) (getD_mem (by first | omega | (simp only [BL] at *; omega))) _ | exact sameExpr_ok (x.args.getD 0 default) tru) ?_ ?_ | refine .t5 ?_ ?_ ?_ | refine .t6 ?_ ?_ ?_ | refine .t7 ?_ ?_ ?_ | refine .r2 ?_ ?_ | refine .r3 ?_ ?_ | refine .r4 ?_ ?_ | refine .r5 ?_ ?_ | (refine .l3 ?_; intro b) | refine .r6 ?_ ?_ | refine .r7 ?_ ?_ | refine .r8 ?_ ?_ | refine .r9 ?_ ?_ | refine .ra ?_ ?_ | (show List.all _ _ = true; rfl) | (show (_ : Nat) = _; rfl))
  try any_goals ((intro hob; first | (simp_all; done) | (simp only [BL] at *; first | (simp_all; done) | omega)))
  all_goals (try simp only [BL] at *)
  · refine Sx.Fin.intro (by repeat' first | exact .refl _ | refine .same ?_ | refine .cons ?_) (bq ?_)
    rw [form_iff]
    constructor
    · intro h; exact Bool.noConfusion h
    · rintro ⟨h1, h2, h3, h4⟩
      have := h3 _ (getD_mem (i := i) (by omega))
      rw [hc] at this
      exact this
  · rename_i h1 h2
    refine ⟨x.args.length - (i + 1), by omega, _, _, by repeat' first | exact .row | exact .refl _ | exact .nil | refine .cons ?_ ?_ | refine .tup ?_ | refine .agg ?_ | exact .sl | exact .own _ | exact .tag, by repeat' first | exact .refl _ | refine .same ?_ | refine .cons ?_, i + 1, by omega, rfl, cons_lt hp hc, rfl, ?_⟩
    have : nodeN x ≤ 3 := by unfold nodeN; repeat' split
                             all_goals omega
    rw [i64w (by omega)]; rfl
  · refine Sx.Fin.intro (by repeat' first | exact .refl _ | refine .same ?_ | refine .cons ?_) (bq ?_)
    rw [form_iff]
    have hall := take_all (p := fun y => form (ins || decide (x.kind = 5)) y = true) (l := x.args) (fun j hj => hp j (by omega))
    show _ ↔ _ ∧ _ ∧ _ ∧ (_ → x.op = (⟨#[99, 111, 117, 110, 116]⟩ : Str) → _)
    grind
  · rename_i h1
    intro h
    have h2 : nodeN x = 2 := by unfold nodeN; rw [if_neg (by omega), if_pos (by omega)]
    omega
end Go.Proofs.YtklncofkcfjkeaaGreatDoor
