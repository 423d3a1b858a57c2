
/- Sizes and forms of expressions. -/
import Derived.Test.YtklncofkcfjkeaaGreatDoorPd
import Derived.Test.YtklncofkcfjkeaaGreatDoorCodeB
set_option linter.unusedSimpArgs false
set_option linter.unusedVariables false
set_option maxRecDepth 100000
namespace Go.Proofs.YtklncofkcfjkeaaGreatDoor
open Go.Sx Go.Proofs
/-- The cells of an expression, as they lie. -/
def Ex.lay (x : Ex) : List AV := [iv x.kind, sv x.op, sv x.name, sv x.table, iv x.val.kind, iv x.val.n, sv x.val.s, .sl false 2 (x.unit.map Fac.cells), iv x.param, iv x.win.kind, iv x.win.size, .sl false 12 (x.args.map Ex.row)]
theorem Ex.args_le (x : Ex) : x.args.length < x.size := by
  have : ∀ l : List Ex, l.length ≤ Ex.sizeL l := fun l => by
    induction l with
    | nil => simp
    | cons y l ih => have := Ex.size_pos y; simp only [List.length_cons, Ex.sizeL]; omega
  have := this x.args
  rw [Ex.size_args]; omega
theorem Ex.step_size {x : Ex} {i : Nat} (h : i < x.args.length) (hs : x.size ≤ 100000) : IntKind.i64.wrap (((1 + Ex.sizeL (x.args.take i) : Nat) : Int) + (x.args.getD i default).size) = ((1 + Ex.sizeL (x.args.take (i + 1)) : Nat) : Int) := by
  have h1 := Ex.sizeL_take h
  have h2 := Ex.sizeL_take_le x.args (i + 1)
  have h3 := Ex.size_args x
  rw [i64w (by omega), h1]; omega
theorem Ex.step_depth {x : Ex} {i : Nat} (h : i < x.args.length) : (if false = true then (if ((x.args.getD i default).depth : Int) < (Ex.depthL (x.args.take i) : Int) then ((x.args.getD i default).depth : Int) else Ex.depthL (x.args.take i)) else (if ((x.args.getD i default).depth : Int) > (Ex.depthL (x.args.take i) : Int) then ((x.args.getD i default).depth : Int) else Ex.depthL (x.args.take i))) = ((Ex.depthL (x.args.take (i + 1)) : Nat) : Int) := by
  rw [if_neg Bool.false_ne_true, Ex.depthL_take h]
  split <;> omega
theorem Ex.end_depth {x : Ex} {i : Nat} (h : x.args.length ≤ i) (hs : x.size ≤ 100000) : IntKind.i64.wrap ((Ex.depthL (x.args.take i) : Int) + 1) = (x.depth : Int) := by
  have := Ex.depth_le x
  have h2 := Ex.depth_args x
  rw [List.take_of_length_le h, i64w (by omega)]; omega
theorem sizeR_ok (x : Ex) : x.size ≤ 100000 → Pure Tryz.prog 28 [.agg x.row] (iv x.size) := by
  induction x using Ex.ind with
  | h x ih =>
  intro hs
  have ih' : ∀ y ∈ x.args, Pure Tryz.prog 28 [.agg y.row] (iv y.size) := fun y hy => ih y hy (by have := Ex.size_lt hy; omega)
  have hl := Ex.args_le x
  rw [Ex.row_eq]
  refine Pure.runk (fun _ => 0) Tryz.func28 comp28 era28 (Nat.le_of_ble_eq_true rfl) fun σ => ?_
  repeat' (first | exact .nil | refine .k0 ?_ | refine .k1 ?_ | refine .k2 ?_ | refine .k3 ?_ | refine .k4 ?_ | refine .k5 ?_ | refine .k6 ?_ | refine .k7 ?_ | refine .k8 ?_ | refine .k9 ?_ | (refine .cd ?_ ?_ <;> first | with_reducible exact tF | with_reducible exact fT | (intro hc; first | exact kf hc (by assumption) | exact kt hc (by assumption) | skip)) | refine .r1 ?_ ?_ | (refine .l1 ?_; intro b) | (refine .m1 ?_ ?_; intro b) | (refine .m2 ?_ ?_; intro hlen) | (refine .m3 ?_ ?_; intro hlen) | refine .t1 ?_ ?_ ?_ | refine .t2 ?_ ?_ ?_ | refine .t3 ?_ ?_ ?_ | refine .t4 ?_ ?_ ?_ | (refine .l2 ?_; intro b) | refine .u1 ?_ ?_ ?_ (fun b u c => ?_) | refine .u2 ?_ ?_ ?_ (fun b u c => ?_) | refine .an rfl (by intro hob; first | exact ih'  (x.args.getD i default) (getD_mem (by first | omega | (simp only [BL] at *; omega)))) ?_ ?_ | refine .t5 ?_ ?_ ?_ | refine .t6 ?_ ?_ ?_ | refine .t7 ?_ ?_ ?_ | refine .r2 ?_ ?_ | refine .r3 ?_ ?_ | refine .r4 ?_ ?_ | refine .r5 ?_ ?_ | (refine .l3 ?_; intro b) | refine .r6 ?_ ?_ | refine .r7 ?_ ?_ | refine .r8 ?_ ?_ | refine .r9 ?_ ?_ | refine .ra ?_ ?_ | (show List.all _ _ = true; rfl) | (show (_ : Nat) = _; rfl))
  try any_goals ((intro hob; first | (simp_all; done) | (simp only [BL] at *; first | (simp_all; done) | omega)))
  all_goals (try simp only [BL] at *)
  refine WK_loop (fun n rg σ' => ∃ i : Nat, i ≤ x.args.length ∧ n = x.args.length - i ∧ σ' = (1, b, Blk.cells x.lay) :: σ ∧ rg = [(1, .lp 1 b 0), (3, iv (1 + Ex.sizeL (x.args.take i) : Nat)), (4, iv i)]) x.args.length rfl ⟨_, _, by repeat' first | exact .row | exact .refl _ | exact .nil | refine .cons ?_ ?_ | refine .tup ?_ | refine .agg ?_ | exact .sl | exact .own _ | exact .tag, by repeat' first | exact .refl _ | refine .same ?_ | refine .cons ?_, 0, Nat.zero_le _, rfl, rfl, rfl⟩ ?_
  rintro n _ _ ⟨i, hi, hn, rfl, rfl⟩
  repeat' (first | exact .nil | refine .k0 ?_ | refine .k1 ?_ | refine .k2 ?_ | refine .k3 ?_ | refine .k4 ?_ | refine .k5 ?_ | refine .k6 ?_ | refine .k7 ?_ | refine .k8 ?_ | refine .k9 ?_ | (refine .cd ?_ ?_ <;> first | with_reducible exact tF | with_reducible exact fT | (intro hc; first | exact kf hc (by assumption) | exact kt hc (by assumption) | skip)) | refine .r1 ?_ ?_ | (refine .l1 ?_; intro b) | (refine .m1 ?_ ?_; intro b) | (refine .m2 ?_ ?_; intro hlen) | (refine .m3 ?_ ?_; intro hlen) | refine .t1 ?_ ?_ ?_ | refine .t2 ?_ ?_ ?_ | refine .t3 ?_ ?_ ?_ | refine .t4 ?_ ?_ ?_ | (refine .l2 ?_; intro b) | refine .u1 ?_ ?_ ?_ (fun b u c => ?_) | refine .u2 ?_ ?_ ?_ (fun b u c => ?_) | refine .an rfl (by intro hob; first | exact ih'  (x.args.getD i default) (getD_mem (by first | omega | (simp only [BL] at *; omega)))) ?_ ?_ | refine .t5 ?_ ?_ ?_ | refine .t6 ?_ ?_ ?_ | refine .t7 ?_ ?_ ?_ | refine .r2 ?_ ?_ | refine .r3 ?_ ?_ | refine .r4 ?_ ?_ | refine .r5 ?_ ?_ | (refine .l3 ?_; intro b) | refine .r6 ?_ ?_ | refine .r7 ?_ ?_ | refine .r8 ?_ ?_ | refine .r9 ?_ ?_ | refine .ra ?_ ?_ | (show List.all _ _ = true; rfl) | (show (_ : Nat) = _; rfl))
  try any_goals ((intro hob; first | (simp_all; done) | (simp only [BL] at *; first | (simp_all; done) | omega)))
  all_goals (try simp only [BL] at *)
  · refine ⟨x.args.length - (i + 1), by omega, _, _, by repeat' first | exact .row | exact .refl _ | exact .nil | refine .cons ?_ ?_ | refine .tup ?_ | refine .agg ?_ | exact .sl | exact .own _ | exact .tag, by repeat' first | exact .refl _ | refine .same ?_ | refine .cons ?_, i + 1, by omega, rfl, rfl, ?_⟩
    rw [Ex.step_size (by omega) hs, i64w (by omega)]; rfl
  · rw [List.take_of_length_le (i := i) (l := x.args) (by omega), Ex.size_args]
    (refine Sx.Fin.wk (by repeat' first | exact .refl _ | refine .same ?_ | refine .cons ?_) ?_; repeat' first | exact .refl _ | exact .nil | refine .cons ?_ ?_ | refine .tup ?_ | refine .agg ?_ | exact .sl | exact .own _)
theorem depthR_ok (x : Ex) : x.size ≤ 100000 → Pure Tryz.prog 29 [.agg x.row] (iv x.depth) := by
  induction x using Ex.ind with
  | h x ih =>
  intro hs
  have ih' : ∀ y ∈ x.args, Pure Tryz.prog 29 [.agg y.row] (iv y.depth) := fun y hy => ih y hy (by have := Ex.size_lt hy; omega)
  have hl := Ex.args_le x
  rw [Ex.row_eq]
  refine Pure.runk (fun _ => 0) Tryz.func29 comp29 era29 (Nat.le_of_ble_eq_true rfl) fun σ => ?_
  repeat' (first | exact .nil | refine .k0 ?_ | refine .k1 ?_ | refine .k2 ?_ | refine .k3 ?_ | refine .k4 ?_ | refine .k5 ?_ | refine .k6 ?_ | refine .k7 ?_ | refine .k8 ?_ | refine .k9 ?_ | (refine .cd ?_ ?_ <;> first | with_reducible exact tF | with_reducible exact fT | (intro hc; first | exact kf hc (by assumption) | exact kt hc (by assumption) | skip)) | refine .r1 ?_ ?_ | (refine .l1 ?_; intro b) | (refine .m1 ?_ ?_; intro b) | (refine .m2 ?_ ?_; intro hlen) | (refine .m3 ?_ ?_; intro hlen) | refine .t1 ?_ ?_ ?_ | refine .t2 ?_ ?_ ?_ | refine .t3 ?_ ?_ ?_ | refine .t4 ?_ ?_ ?_ | (refine .l2 ?_; intro b) | refine .u1 ?_ ?_ ?_ (fun b u c => ?_) | refine .u2 ?_ ?_ ?_ (fun b u c => ?_) | refine .an rfl (by intro hob; first | exact ih'  (x.args.getD i default) (getD_mem (by first | omega | (simp only [BL] at *; omega)))) ?_ ?_ | refine .t5 ?_ ?_ ?_ | refine .t6 ?_ ?_ ?_ | refine .t7 ?_ ?_ ?_ | refine .r2 ?_ ?_ | refine .r3 ?_ ?_ | refine .r4 ?_ ?_ | refine .r5 ?_ ?_ | (refine .l3 ?_; intro b) | refine .r6 ?_ ?_ | refine .r7 ?_ ?_ | refine .r8 ?_ ?_ | refine .r9 ?_ ?_ | refine .ra ?_ ?_ | (show List.all _ _ = true; rfl) | (show (_ : Nat) = _; rfl))
  try any_goals ((intro hob; first | (simp_all; done) | (simp only [BL] at *; first | (simp_all; done) | omega)))
  all_goals (try simp only [BL] at *)
  refine WK_loop (fun n rg σ' => ∃ i : Nat, i ≤ x.args.length ∧ n = x.args.length - i ∧ σ' = (1, b, Blk.cells x.lay) :: σ ∧ rg = [(1, .lp 1 b 0), (3, iv (Ex.depthL (x.args.take i) : Nat)), (4, iv i)]) x.args.length rfl ⟨_, _, by repeat' first | exact .row | exact .refl _ | exact .nil | refine .cons ?_ ?_ | refine .tup ?_ | refine .agg ?_ | exact .sl | exact .own _ | exact .tag, by repeat' first | exact .refl _ | refine .same ?_ | refine .cons ?_, 0, Nat.zero_le _, rfl, rfl, rfl⟩ ?_
  rintro n _ _ ⟨i, hi, hn, rfl, rfl⟩
  repeat' (first | exact .nil | refine .k0 ?_ | refine .k1 ?_ | refine .k2 ?_ | refine .k3 ?_ | refine .k4 ?_ | refine .k5 ?_ | refine .k6 ?_ | refine .k7 ?_ | refine .k8 ?_ | refine .k9 ?_ | (refine .cd ?_ ?_ <;> first | with_reducible exact tF | with_reducible exact fT | (intro hc; first | exact kf hc (by assumption) | exact kt hc (by assumption) | skip)) | refine .r1 ?_ ?_ | (refine .l1 ?_; intro b) | (refine .m1 ?_ ?_; intro b) | (refine .m2 ?_ ?_; intro hlen) | (refine .m3 ?_ ?_; intro hlen) | refine .t1 ?_ ?_ ?_ | refine .t2 ?_ ?_ ?_ | refine .t3 ?_ ?_ ?_ | refine .t4 ?_ ?_ ?_ | (refine .l2 ?_; intro b) | refine .u1 ?_ ?_ ?_ (fun b u c => ?_) | refine .u2 ?_ ?_ ?_ (fun b u c => ?_) | refine .an rfl (by intro hob; first | exact ih'  (x.args.getD i default) (getD_mem (by first | omega | (simp only [BL] at *; omega)))) ?_ ?_ | refine .t5 ?_ ?_ ?_ | refine .t6 ?_ ?_ ?_ | refine .t7 ?_ ?_ ?_ | refine .r2 ?_ ?_ | refine .r3 ?_ ?_ | refine .r4 ?_ ?_ | refine .r5 ?_ ?_ | (refine .l3 ?_; intro b) | refine .r6 ?_ ?_ | refine .r7 ?_ ?_ | refine .r8 ?_ ?_ | refine .r9 ?_ ?_ | refine .ra ?_ ?_ | (show List.all _ _ = true; rfl) | (show (_ : Nat) = _; rfl))
  try any_goals ((intro hob; first | (simp_all; done) | (simp only [BL] at *; first | (simp_all; done) | omega)))
  all_goals (try simp only [BL] at *)
  · refine ⟨x.args.length - (i + 1), by omega, _, _, by repeat' first | exact .row | exact .refl _ | exact .nil | refine .cons ?_ ?_ | refine .tup ?_ | refine .agg ?_ | exact .sl | exact .own _ | exact .tag, by repeat' first | exact .refl _ | refine .same ?_ | refine .cons ?_, i + 1, by omega, rfl, rfl, ?_⟩
    rw [Ex.step_depth (by omega), i64w (by omega)]; rfl
  · refine Sx.Fin.intro (by repeat' first | exact .refl _ | refine .same ?_ | refine .cons ?_) (bi ?_)
    exact Ex.end_depth (by omega) hs
theorem size_ok (x : Ex) : x.size ≤ 100000 → Pure Tryz.prog 53 [.agg x.row] (iv x.size) := by
  induction x using Ex.ind with
  | h x ih =>
  intro hs
  have ih' : ∀ y ∈ x.args, Pure Tryz.prog 53 [.agg y.row] (iv y.size) := fun y hy => ih y hy (by have := Ex.size_lt hy; omega)
  have hl := Ex.args_le x
  rw [Ex.row_eq]
  refine Pure.runk (fun _ => 0) Tryz.func53 comp53 era53 (Nat.le_of_ble_eq_true rfl) fun σ => ?_
  repeat' (first | exact .nil | refine .k0 ?_ | refine .k1 ?_ | refine .k2 ?_ | refine .k3 ?_ | refine .k4 ?_ | refine .k5 ?_ | refine .k6 ?_ | refine .k7 ?_ | refine .k8 ?_ | refine .k9 ?_ | (refine .cd ?_ ?_ <;> first | with_reducible exact tF | with_reducible exact fT | (intro hc; first | exact kf hc (by assumption) | exact kt hc (by assumption) | skip)) | refine .r1 ?_ ?_ | (refine .l1 ?_; intro b) | (refine .m1 ?_ ?_; intro b) | (refine .m2 ?_ ?_; intro hlen) | (refine .m3 ?_ ?_; intro hlen) | refine .t1 ?_ ?_ ?_ | refine .t2 ?_ ?_ ?_ | refine .t3 ?_ ?_ ?_ | refine .t4 ?_ ?_ ?_ | (refine .l2 ?_; intro b) | refine .u1 ?_ ?_ ?_ (fun b u c => ?_) | refine .u2 ?_ ?_ ?_ (fun b u c => ?_) | refine .an rfl (by intro hob; first | exact ih'  (x.args.getD i default) (getD_mem (by first | omega | (simp only [BL] at *; omega)))) ?_ ?_ | refine .t5 ?_ ?_ ?_ | refine .t6 ?_ ?_ ?_ | refine .t7 ?_ ?_ ?_ | refine .r2 ?_ ?_ | refine .r3 ?_ ?_ | refine .r4 ?_ ?_ | refine .r5 ?_ ?_ | (refine .l3 ?_; intro b) | refine .r6 ?_ ?_ | refine .r7 ?_ ?_ | refine .r8 ?_ ?_ | refine .r9 ?_ ?_ | refine .ra ?_ ?_ | (show List.all _ _ = true; rfl) | (show (_ : Nat) = _; rfl))
  try any_goals ((intro hob; first | (simp_all; done) | (simp only [BL] at *; first | (simp_all; done) | omega)))
  all_goals (try simp only [BL] at *)
  refine WK_loop (fun n rg σ' => ∃ i : Nat, i ≤ x.args.length ∧ n = x.args.length - i ∧ σ' = (1, b, Blk.cells x.lay) :: σ ∧ rg = [(2, iv (1 + Ex.sizeL (x.args.take i) : Nat)), (6, .sl false 12 (x.args.map Ex.row)), (7, iv x.args.length), (8, iv i)]) x.args.length rfl ⟨_, _, by repeat' first | exact .row | exact .refl _ | exact .nil | refine .cons ?_ ?_ | refine .tup ?_ | refine .agg ?_ | exact .sl | exact .own _ | exact .tag, by repeat' first | exact .refl _ | refine .same ?_ | refine .cons ?_, 0, Nat.zero_le _, rfl, rfl, rfl⟩ ?_
  rintro n _ _ ⟨i, hi, hn, rfl, rfl⟩
  repeat' (first | exact .nil | refine .k0 ?_ | refine .k1 ?_ | refine .k2 ?_ | refine .k3 ?_ | refine .k4 ?_ | refine .k5 ?_ | refine .k6 ?_ | refine .k7 ?_ | refine .k8 ?_ | refine .k9 ?_ | (refine .cd ?_ ?_ <;> first | with_reducible exact tF | with_reducible exact fT | (intro hc; first | exact kf hc (by assumption) | exact kt hc (by assumption) | skip)) | refine .r1 ?_ ?_ | (refine .l1 ?_; intro b) | (refine .m1 ?_ ?_; intro b) | (refine .m2 ?_ ?_; intro hlen) | (refine .m3 ?_ ?_; intro hlen) | refine .t1 ?_ ?_ ?_ | refine .t2 ?_ ?_ ?_ | refine .t3 ?_ ?_ ?_ | refine .t4 ?_ ?_ ?_ | (refine .l2 ?_; intro b) | refine .u1 ?_ ?_ ?_ (fun b u c => ?_) | refine .u2 ?_ ?_ ?_ (fun b u c => ?_) | refine .an rfl (by intro hob; first | exact ih'  (x.args.getD i default) (getD_mem (by first | omega | (simp only [BL] at *; omega)))) ?_ ?_ | refine .t5 ?_ ?_ ?_ | refine .t6 ?_ ?_ ?_ | refine .t7 ?_ ?_ ?_ | refine .r2 ?_ ?_ | refine .r3 ?_ ?_ | refine .r4 ?_ ?_ | refine .r5 ?_ ?_ | (refine .l3 ?_; intro b) | refine .r6 ?_ ?_ | refine .r7 ?_ ?_ | refine .r8 ?_ ?_ | refine .r9 ?_ ?_ | refine .ra ?_ ?_ | (show List.all _ _ = true; rfl) | (show (_ : Nat) = _; rfl))
  try any_goals ((intro hob; first | (simp_all; done) | (simp only [BL] at *; first | (simp_all; done) | omega)))
  all_goals (try simp only [BL] at *)
  · refine ⟨x.args.length - (i + 1), by omega, _, _, by repeat' first | exact .row | exact .refl _ | exact .nil | refine .cons ?_ ?_ | refine .tup ?_ | refine .agg ?_ | exact .sl | exact .own _ | exact .tag, by repeat' first | exact .refl _ | refine .same ?_ | refine .cons ?_, i + 1, by omega, rfl, rfl, ?_⟩
    rw [Ex.step_size (by omega) hs, i64w (by omega)]; rfl
  · rw [List.take_of_length_le (i := i) (l := x.args) (by omega), Ex.size_args]
    (refine Sx.Fin.wk (by repeat' first | exact .refl _ | refine .same ?_ | refine .cons ?_) ?_; repeat' first | exact .refl _ | exact .nil | refine .cons ?_ ?_ | refine .tup ?_ | refine .agg ?_ | exact .sl | exact .own _)
theorem depth_ok (x : Ex) : x.size ≤ 100000 → Pure Tryz.prog 54 [.agg x.row] (iv x.depth) := by
  induction x using Ex.ind with
  | h x ih =>
  intro hs
  have ih' : ∀ y ∈ x.args, Pure Tryz.prog 54 [.agg y.row] (iv y.depth) := fun y hy => ih y hy (by have := Ex.size_lt hy; omega)
  have hl := Ex.args_le x
  rw [Ex.row_eq]
  refine Pure.runk (fun _ => 0) Tryz.func54 comp54 era54 (Nat.le_of_ble_eq_true rfl) fun σ => ?_
  repeat' (first | exact .nil | refine .k0 ?_ | refine .k1 ?_ | refine .k2 ?_ | refine .k3 ?_ | refine .k4 ?_ | refine .k5 ?_ | refine .k6 ?_ | refine .k7 ?_ | refine .k8 ?_ | refine .k9 ?_ | (refine .cd ?_ ?_ <;> first | with_reducible exact tF | with_reducible exact fT | (intro hc; first | exact kf hc (by assumption) | exact kt hc (by assumption) | skip)) | refine .r1 ?_ ?_ | (refine .l1 ?_; intro b) | (refine .m1 ?_ ?_; intro b) | (refine .m2 ?_ ?_; intro hlen) | (refine .m3 ?_ ?_; intro hlen) | refine .t1 ?_ ?_ ?_ | refine .t2 ?_ ?_ ?_ | refine .t3 ?_ ?_ ?_ | refine .t4 ?_ ?_ ?_ | (refine .l2 ?_; intro b) | refine .u1 ?_ ?_ ?_ (fun b u c => ?_) | refine .u2 ?_ ?_ ?_ (fun b u c => ?_) | refine .an rfl (by intro hob; first | exact ih'  (x.args.getD i default) (getD_mem (by first | omega | (simp only [BL] at *; omega)))) ?_ ?_ | refine .t5 ?_ ?_ ?_ | refine .t6 ?_ ?_ ?_ | refine .t7 ?_ ?_ ?_ | refine .r2 ?_ ?_ | refine .r3 ?_ ?_ | refine .r4 ?_ ?_ | refine .r5 ?_ ?_ | (refine .l3 ?_; intro b) | refine .r6 ?_ ?_ | refine .r7 ?_ ?_ | refine .r8 ?_ ?_ | refine .r9 ?_ ?_ | refine .ra ?_ ?_ | (show List.all _ _ = true; rfl) | (show (_ : Nat) = _; rfl))
  try any_goals ((intro hob; first | (simp_all; done) | (simp only [BL] at *; first | (simp_all; done) | omega)))
  all_goals (try simp only [BL] at *)
  refine WK_loop (fun n rg σ' => ∃ i : Nat, i ≤ x.args.length ∧ n = x.args.length - i ∧ σ' = (1, b, Blk.cells x.lay) :: σ ∧ rg = [(2, iv (Ex.depthL (x.args.take i) : Nat)), (6, .sl false 12 (x.args.map Ex.row)), (7, iv x.args.length), (8, iv i)]) x.args.length rfl ⟨_, _, by repeat' first | exact .row | exact .refl _ | exact .nil | refine .cons ?_ ?_ | refine .tup ?_ | refine .agg ?_ | exact .sl | exact .own _ | exact .tag, by repeat' first | exact .refl _ | refine .same ?_ | refine .cons ?_, 0, Nat.zero_le _, rfl, rfl, rfl⟩ ?_
  rintro n _ _ ⟨i, hi, hn, rfl, rfl⟩
  repeat' (first | exact .nil | refine .k0 ?_ | refine .k1 ?_ | refine .k2 ?_ | refine .k3 ?_ | refine .k4 ?_ | refine .k5 ?_ | refine .k6 ?_ | refine .k7 ?_ | refine .k8 ?_ | refine .k9 ?_ | (refine .cd ?_ ?_ <;> first | with_reducible exact tF | with_reducible exact fT | (intro hc; first | exact kf hc (by assumption) | exact kt hc (by assumption) | skip)) | refine .r1 ?_ ?_ | (refine .l1 ?_; intro b) | (refine .m1 ?_ ?_; intro b) | (refine .m2 ?_ ?_; intro hlen) | (refine .m3 ?_ ?_; intro hlen) | refine .t1 ?_ ?_ ?_ | refine .t2 ?_ ?_ ?_ | refine .t3 ?_ ?_ ?_ | refine .t4 ?_ ?_ ?_ | (refine .l2 ?_; intro b) | refine .u1 ?_ ?_ ?_ (fun b u c => ?_) | refine .u2 ?_ ?_ ?_ (fun b u c => ?_) | refine .an rfl (by intro hob; first | exact ih'  (x.args.getD i default) (getD_mem (by first | omega | (simp only [BL] at *; omega)))) ?_ ?_ | refine .t5 ?_ ?_ ?_ | refine .t6 ?_ ?_ ?_ | refine .t7 ?_ ?_ ?_ | refine .r2 ?_ ?_ | refine .r3 ?_ ?_ | refine .r4 ?_ ?_ | refine .r5 ?_ ?_ | (refine .l3 ?_; intro b) | refine .r6 ?_ ?_ | refine .r7 ?_ ?_ | refine .r8 ?_ ?_ | refine .r9 ?_ ?_ | refine .ra ?_ ?_ | (show List.all _ _ = true; rfl) | (show (_ : Nat) = _; rfl))
  try any_goals ((intro hob; first | (simp_all; done) | (simp only [BL] at *; first | (simp_all; done) | omega)))
  all_goals (try simp only [BL] at *)
  · refine ⟨x.args.length - (i + 1), by omega, _, _, by repeat' first | exact .row | exact .refl _ | exact .nil | refine .cons ?_ ?_ | refine .tup ?_ | refine .agg ?_ | exact .sl | exact .own _ | exact .tag, by repeat' first | exact .refl _ | refine .same ?_ | refine .cons ?_, i + 1, by omega, rfl, rfl, ?_⟩
    rw [Ex.step_depth (by omega), i64w (by omega)]; rfl
  · refine Sx.Fin.intro (by repeat' first | exact .refl _ | refine .same ?_ | refine .cons ?_) (bi ?_)
    exact Ex.end_depth (by omega) hs

def Ex.lens (x : Ex) : Nat := x.op.size + x.name.size + x.table.size + x.val.s.size
mutual
def Ex.wt : Ex → Nat
  | .mk _ o n t v _ _ _ ks => max (o.size + n.size + t.size + v.s.size) (Ex.wtL ks)
def Ex.wtL : List Ex → Nat
  | [] => 0
  | x :: l => max x.wt (Ex.wtL l)
end
theorem Ex.wt_eq (x : Ex) : x.wt = max x.lens (Ex.wtL x.args) := by cases x; rfl
theorem Ex.wtL_mem {l : List Ex} {y : Ex} (h : y ∈ l) : y.wt ≤ Ex.wtL l := by
  induction l with
  | nil => cases h
  | cons x l ih =>
    rw [Ex.wtL]
    rcases List.mem_cons.1 h with rfl | h
    · omega
    · have := ih h; omega
theorem Ex.wt_le {x y : Ex} (h : y ∈ x.args) : y.wt ≤ x.wt := by
  have := Ex.wtL_mem h
  rw [Ex.wt_eq x]; omega
def Ex.big (x : Ex) (n : Int) : Prop := n < 1 ∨ x.lens > 300 ∨ x.unit.length > 10 ∨ x.args.length > 10 ∨ ∃ f ∈ x.unit, f.name.size > 100
instance (x : Ex) (n : Int) : Decidable (x.big n) := inferInstanceAs (Decidable (_ ∨ _ ∨ _ ∨ _ ∨ _))
mutual
def few : Ex → Int → Int
  | .mk k o nm t v u p w ks, n => if Ex.big (.mk k o nm t v u p w ks) n then -1 else fewL ks (n - 1)
def fewL : List Ex → Int → Int
  | [], n => n
  | x :: l, n => if n < 0 then n else fewL l (few x n)
end
theorem few_eq (x : Ex) (n : Int) : few x n = if x.big n then -1 else fewL x.args (n - 1) := by cases x; rfl
mutual
theorem few_size : ∀ (x : Ex) (n : Int), -1 ≤ n → -1 ≤ few x n ∧ few x n ≤ n ∧ (0 ≤ few x n → few x n + x.size ≤ n)
  | .mk k o nm t v u p w ks, n, hn => by
    rw [few_eq]
    split
    · omega
    · rename_i h
      have h1 : ¬ n < 1 := fun h' => h (.inl h')
      have := fewL_size ks (n - 1) (by omega)
      rw [Ex.size]
      simp only [Ex.args]
      omega
theorem fewL_size : ∀ (l : List Ex) (n : Int), -1 ≤ n → -1 ≤ fewL l n ∧ fewL l n ≤ n ∧ (0 ≤ fewL l n → fewL l n + Ex.sizeL l ≤ n)
  | [], n, hn => by rw [fewL, Ex.sizeL]; omega
  | x :: l, n, hn => by
    rw [fewL, Ex.sizeL]
    split
    · omega
    · have h1 := few_size x n hn
      have h2 := fewL_size l (few x n) h1.1
      omega
end
theorem fewL_stop {l : List Ex} {n : Int} (h : n < 0) : fewL l n = n := by
  cases l with
  | nil => rfl
  | cons x l => rw [fewL, if_pos h]
theorem fewL_step {x : Ex} {i : Nat} {n : Int} (hi : i < x.args.length) (h : ¬ n < 0) : fewL (x.args.drop i) n = fewL (x.args.drop (i + 1)) (few (x.args.getD i default) n) := by
  rw [drop_get hi, fewL, if_neg h]
theorem few_ok (x : Ex) : x.wt ≤ 2 ^ 60 → ∀ n : Int, -1 ≤ n ∧ n ≤ 1000 → Pure Tryz.prog 7 [.agg x.row, iv n] (iv (few x n)) := by
  induction x using Ex.ind with
  | h x ih =>
  intro hs n0 hn0
  have ih' : ∀ y ∈ x.args, ∀ n : Int, -1 ≤ n ∧ n ≤ 1000 → Pure Tryz.prog 7 [.agg y.row, iv n] (iv (few y n)) := fun y hy => ih y hy (by have := Ex.wt_le hy; omega)
  have hw := Ex.wt_eq x
  have hw' : x.lens = x.op.size + x.name.size + x.table.size + x.val.s.size := rfl
  have hw'' : x.op.size + x.name.size + x.table.size + x.val.s.size ≤ 1152921504606846976 := by omega
  rw [Ex.row_eq]
  refine Pure.runk (fun _ => 0) Tryz.func7 comp7 era7 (Nat.le_of_ble_eq_true rfl) fun σ => ?_
  repeat' (first | exact .nil | refine .k0 ?_ | refine .k1 ?_ | refine .k2 ?_ | refine .k3 ?_ | refine .k4 ?_ | refine .k5 ?_ | refine .k6 ?_ | refine .k7 ?_ | refine .k8 ?_ | refine .k9 ?_ | (refine .cd ?_ ?_ <;> first | with_reducible exact tF | with_reducible exact fT | (intro hc; first | exact kf hc (by assumption) | exact kt hc (by assumption) | skip)) | refine .r1 ?_ ?_ | (refine .l1 ?_; intro b) | (refine .m1 ?_ ?_; intro b) | (refine .m2 ?_ ?_; intro hlen) | (refine .m3 ?_ ?_; intro hlen) | refine .t1 ?_ ?_ ?_ | refine .t2 ?_ ?_ ?_ | refine .t3 ?_ ?_ ?_ | refine .t4 ?_ ?_ ?_ | (refine .l2 ?_; intro b) | refine .u1 ?_ ?_ ?_ (fun b u c => ?_) | refine .u2 ?_ ?_ ?_ (fun b u c => ?_) | refine .an rfl (by intro hob; first | exact ih' (x.args.getD i default) (getD_mem (by first | omega | (simp only [BL] at *; omega))) _ (by first | omega | (simp only [BL] at *; omega))) ?_ ?_ | refine .t5 ?_ ?_ ?_ | refine .t6 ?_ ?_ ?_ | refine .t7 ?_ ?_ ?_ | refine .r2 ?_ ?_ | refine .r3 ?_ ?_ | refine .r4 ?_ ?_ | refine .r5 ?_ ?_ | (refine .l3 ?_; intro b) | refine .r6 ?_ ?_ | refine .r7 ?_ ?_ | refine .r8 ?_ ?_ | refine .r9 ?_ ?_ | refine .ra ?_ ?_ | (show List.all _ _ = true; rfl) | (show (_ : Nat) = _; rfl))
  try any_goals ((intro hob; first | (simp_all; done) | (simp only [BL] at *; first | (simp_all; done) | omega)))
  all_goals (try simp only [BL] at *)
  all_goals have hsum : IntKind.i64.wrap (IntKind.i64.wrap (IntKind.i64.wrap ((x.op.size : Int) + x.name.size) + x.table.size) + x.val.s.size) = (x.lens : Int) := by rw [i64w (n := (x.op.size : Int) + x.name.size) (by omega), i64w (n := (x.op.size : Int) + x.name.size + x.table.size) (by omega), i64w (by omega)]; omega
  all_goals rw [hsum] at hc
  · refine Sx.Fin.intro (by repeat' first | exact .refl _ | refine .same ?_ | refine .cons ?_) (bi ?_)
    rw [few_eq, if_pos (by unfold Ex.big; omega)]
  refine WK_loop (fun n rg σ' => ∃ i : Nat, i ≤ x.unit.length ∧ n = x.unit.length - i ∧ (∀ j, j < i → ¬ (x.unit.getD j default).name.size > 100) ∧ σ' = (2, b, Blk.cells x.lay) :: σ ∧ rg = [(1, iv n0), (2, .lp 2 b 0), (5, iv i)]) x.unit.length rfl ⟨_, _, by repeat' first | exact .row | exact .refl _ | exact .nil | refine .cons ?_ ?_ | refine .tup ?_ | refine .agg ?_ | exact .sl | exact .own _ | exact .tag, by repeat' first | exact .refl _ | refine .same ?_ | refine .cons ?_, 0, Nat.zero_le _, rfl, fun j hj => absurd hj (by omega), rfl, rfl⟩ ?_
  rintro n _ _ ⟨i, hi, hn, hp, rfl, rfl⟩
  repeat' (first | exact .nil | refine .k0 ?_ | refine .k1 ?_ | refine .k2 ?_ | refine .k3 ?_ | refine .k4 ?_ | refine .k5 ?_ | refine .k6 ?_ | refine .k7 ?_ | refine .k8 ?_ | refine .k9 ?_ | (refine .cd ?_ ?_ <;> first | with_reducible exact tF | with_reducible exact fT | (intro hc; first | exact kf hc (by assumption) | exact kt hc (by assumption) | skip)) | refine .r1 ?_ ?_ | (refine .l1 ?_; intro b) | (refine .m1 ?_ ?_; intro b) | (refine .m2 ?_ ?_; intro hlen) | (refine .m3 ?_ ?_; intro hlen) | refine .t1 ?_ ?_ ?_ | refine .t2 ?_ ?_ ?_ | refine .t3 ?_ ?_ ?_ | refine .t4 ?_ ?_ ?_ | (refine .l2 ?_; intro b) | refine .u1 ?_ ?_ ?_ (fun b u c => ?_) | refine .u2 ?_ ?_ ?_ (fun b u c => ?_) | refine .an rfl (by intro hob; first | exact ih' (x.args.getD i default) (getD_mem (by first | omega | (simp only [BL] at *; omega))) _ (by first | omega | (simp only [BL] at *; omega))) ?_ ?_ | refine .t5 ?_ ?_ ?_ | refine .t6 ?_ ?_ ?_ | refine .t7 ?_ ?_ ?_ | refine .r2 ?_ ?_ | refine .r3 ?_ ?_ | refine .r4 ?_ ?_ | refine .r5 ?_ ?_ | (refine .l3 ?_; intro b) | refine .r6 ?_ ?_ | refine .r7 ?_ ?_ | refine .r8 ?_ ?_ | refine .r9 ?_ ?_ | refine .ra ?_ ?_ | (show List.all _ _ = true; rfl) | (show (_ : Nat) = _; rfl))
  try any_goals ((intro hob; first | (simp_all; done) | (simp only [BL] at *; first | (simp_all; done) | omega)))
  all_goals (try simp only [BL] at *)
  · refine Sx.Fin.intro (by repeat' first | exact .refl _ | refine .same ?_ | refine .cons ?_) (bi ?_)
    rw [few_eq, if_pos (.inr (.inr (.inr (.inr ⟨_, getD_mem (i := i) (by omega), by omega⟩))))]
  · refine ⟨x.unit.length - (i + 1), by omega, _, _, by repeat' first | exact .row | exact .refl _ | exact .nil | refine .cons ?_ ?_ | refine .tup ?_ | refine .agg ?_ | exact .sl | exact .own _ | exact .tag, by repeat' first | exact .refl _ | refine .same ?_ | refine .cons ?_, i + 1, by omega, rfl, cons_lt hp (by omega), rfl, by rw [up1 (n := x.unit.length) (by omega) (by assumption)]⟩
  have hall := take_all (p := fun f : Fac => ¬ f.name.size > 100) (l := x.unit) (fun j hj => hp j (by omega))
  have hbig : ¬ x.big n0 := by rintro (h | h | h | h | ⟨f, h1, h2⟩); all_goals first | omega | exact hall f h1 h2
  have hfew : few x n0 = fewL x.args (n0 - 1) := by rw [few_eq, if_neg hbig]
  have hn1 : IntKind.i64.wrap (n0 - 1) = n0 - 1 := i64w (by omega)
  rw [hn1]
  refine WK_loop (fun n rg σ' => ∃ (i : Nat) (m : Int), i ≤ x.args.length ∧ n = x.args.length - i ∧ few x n0 = fewL (x.args.drop i) m ∧ (-1 ≤ m ∧ m ≤ 1000) ∧ σ' = (2, b, Blk.cells x.lay) :: σ ∧ rg = [(1, iv m), (2, .lp 2 b 0), (6, iv i)]) x.args.length rfl ⟨_, _, by repeat' first | exact .row | exact .refl _ | exact .nil | refine .cons ?_ ?_ | refine .tup ?_ | refine .agg ?_ | exact .sl | exact .own _ | exact .tag, by repeat' first | exact .refl _ | refine .same ?_ | refine .cons ?_, 0, n0 - 1, Nat.zero_le _, rfl, hfew, by omega, rfl, rfl⟩ ?_
  rintro n _ _ ⟨i, m, hi, hn, hp, hm, rfl, rfl⟩
  repeat' (first | exact .nil | refine .k0 ?_ | refine .k1 ?_ | refine .k2 ?_ | refine .k3 ?_ | refine .k4 ?_ | refine .k5 ?_ | refine .k6 ?_ | refine .k7 ?_ | refine .k8 ?_ | refine .k9 ?_ | (refine .cd ?_ ?_ <;> first | with_reducible exact tF | with_reducible exact fT | (intro hc; first | exact kf hc (by assumption) | exact kt hc (by assumption) | skip)) | refine .r1 ?_ ?_ | (refine .l1 ?_; intro b) | (refine .m1 ?_ ?_; intro b) | (refine .m2 ?_ ?_; intro hlen) | (refine .m3 ?_ ?_; intro hlen) | refine .t1 ?_ ?_ ?_ | refine .t2 ?_ ?_ ?_ | refine .t3 ?_ ?_ ?_ | refine .t4 ?_ ?_ ?_ | (refine .l2 ?_; intro b) | refine .u1 ?_ ?_ ?_ (fun b u c => ?_) | refine .u2 ?_ ?_ ?_ (fun b u c => ?_) | refine .an rfl (by intro hob; first | exact ih' (x.args.getD i default) (getD_mem (by first | omega | (simp only [BL] at *; omega))) _ (by first | omega | (simp only [BL] at *; omega))) ?_ ?_ | refine .t5 ?_ ?_ ?_ | refine .t6 ?_ ?_ ?_ | refine .t7 ?_ ?_ ?_ | refine .r2 ?_ ?_ | refine .r3 ?_ ?_ | refine .r4 ?_ ?_ | refine .r5 ?_ ?_ | (refine .l3 ?_; intro b) | refine .r6 ?_ ?_ | refine .r7 ?_ ?_ | refine .r8 ?_ ?_ | refine .r9 ?_ ?_ | refine .ra ?_ ?_ | (show List.all _ _ = true; rfl) | (show (_ : Nat) = _; rfl))
  try any_goals ((intro hob; first | (simp_all; done) | (simp only [BL] at *; first | (simp_all; done) | omega)))
  all_goals (try simp only [BL] at *)
  · have := few_size (x.args.getD i default) m hm.1
    refine ⟨x.args.length - (i + 1), by omega, _, _, by repeat' first | exact .row | exact .refl _ | exact .nil | refine .cons ?_ ?_ | refine .tup ?_ | refine .agg ?_ | exact .sl | exact .own _ | exact .tag, by repeat' first | exact .refl _ | refine .same ?_ | refine .cons ?_, i + 1, _, by omega, rfl, by rw [hp, fewL_step (by omega) (by omega)], by omega, rfl, by rw [up1 (n := x.args.length) (by omega) (by omega)]⟩
  · refine Sx.Fin.intro (by repeat' first | exact .refl _ | refine .same ?_ | refine .cons ?_) (bi ?_)
    rw [hp]
    by_cases h : m < 0
    · rw [fewL_stop h]
    · rw [List.drop_eq_nil_of_le (by omega), fewL]
def tyEx (t : Ty) : Ex := ⟨0, ⟨#[]⟩, t.of, ⟨#[]⟩, ⟨0, 0, ⟨#[]⟩⟩, t.unit, 0, ⟨0, 0⟩, []⟩
theorem tyEx_lens (t : Ty) : (tyEx t).lens = t.of.size := by show 0 + t.of.size + 0 + 0 = _; omega
theorem tyEx_wt (t : Ty) : (tyEx t).wt = t.of.size := by show max (0 + t.of.size + 0 + 0) 0 = _; omega
def FewTy (t : Ty) : Prop := t.of.size ≤ 300 ∧ t.unit.length ≤ 10 ∧ ∀ f ∈ t.unit, f.name.size ≤ 100
instance (t : Ty) : Decidable (FewTy t) := inferInstanceAs (Decidable (_ ∧ _ ∧ _))
theorem big_ty (t : Ty) : (tyEx t).big 1 ↔ ¬ FewTy t := by
  show ((1 : Int) < 1 ∨ (tyEx t).lens > 300 ∨ t.unit.length > 10 ∨ 0 > 10 ∨ ∃ f ∈ t.unit, f.name.size > 100) ↔ _
  rw [tyEx_lens]
  unfold FewTy
  grind
theorem few_ty (t : Ty) : 0 ≤ few (tyEx t) 1 ↔ FewTy t := by
  rw [few_eq]
  by_cases h : (tyEx t).big 1
  · rw [if_pos h]
    have := (big_ty t).1 h
    grind
  · rw [if_neg h]
    have : FewTy t := Decidable.not_not.1 fun h' => h ((big_ty t).2 h')
    show 0 ≤ fewL [] (1 - 1) ↔ _
    rw [fewL]
    grind
theorem fewType_ok (t : Ty) (h : t.of.size ≤ 2 ^ 59) : Pure Tryz.prog 11 [.agg t.cells] (.v (.bool (decide (FewTy t)))) := by
  refine Pure.runk (fun _ => 0) Tryz.func11 comp11 era11 (Nat.le_of_ble_eq_true rfl) fun σ => ?_
  repeat' (first | exact .nil | refine .k0 ?_ | refine .k1 ?_ | refine .k2 ?_ | refine .k3 ?_ | refine .k4 ?_ | refine .k5 ?_ | refine .k6 ?_ | refine .k7 ?_ | refine .k8 ?_ | refine .k9 ?_ | (refine .cd ?_ ?_ <;> first | with_reducible exact tF | with_reducible exact fT | (intro hc; first | exact kf hc (by assumption) | exact kt hc (by assumption) | skip)) | refine .r1 ?_ ?_ | (refine .l1 ?_; intro b) | (refine .m1 ?_ ?_; intro b) | (refine .m2 ?_ ?_; intro hlen) | (refine .m3 ?_ ?_; intro hlen) | refine .t1 ?_ ?_ ?_ | refine .t2 ?_ ?_ ?_ | refine .t3 ?_ ?_ ?_ | refine .t4 ?_ ?_ ?_ | (refine .l2 ?_; intro b) | refine .u1 ?_ ?_ ?_ (fun b u c => ?_) | refine .u2 ?_ ?_ ?_ (fun b u c => ?_) | refine .an rfl (by intro hob; first | exact (few_ok (tyEx t) (by rw [tyEx_wt]; omega) 1 (by omega)).wk (by repeat' first | exact .row | exact .refl _ | exact .nil | refine .cons ?_ ?_ | refine .tup ?_ | refine .agg ?_ | exact .sl | exact .own _)) ?_ ?_ | refine .t5 ?_ ?_ ?_ | refine .t6 ?_ ?_ ?_ | refine .t7 ?_ ?_ ?_ | refine .r2 ?_ ?_ | refine .r3 ?_ ?_ | refine .r4 ?_ ?_ | refine .r5 ?_ ?_ | (refine .l3 ?_; intro b) | refine .r6 ?_ ?_ | refine .r7 ?_ ?_ | refine .r8 ?_ ?_ | refine .r9 ?_ ?_ | refine .ra ?_ ?_ | (show List.all _ _ = true; rfl) | (show (_ : Nat) = _; rfl))
  try any_goals ((intro hob; first | (simp_all; done) | (simp only [BL] at *; first | (simp_all; done) | omega)))
  all_goals (try simp only [BL] at *)
  · refine Sx.Fin.intro (by repeat' first | exact .refl _ | refine .same ?_ | refine .cons ?_) (bd ?_)
    rw [← few_ty]; simp
end Go.Proofs.YtklncofkcfjkeaaGreatDoor
