
/- The examples. -/
import Derived.Test.YtklncofkcfjkeaaGreatDoorPq
set_option linter.unusedSimpArgs false
set_option linter.unusedVariables false
set_option maxRecDepth 100000
set_option maxHeartbeats 4000000
namespace Go.Sx
theorem WkL.get {xs ys : List AV} (h : WkL xs ys) : xs.length = ys.length ∧ ∀ j (h1 : j < xs.length) (h2 : j < ys.length), Wk xs[j] ys[j] := by
  induction h with
  | nil => exact ⟨rfl, fun j h1 => absurd h1 (by simp)⟩
  | cons h t ih =>
    refine ⟨by simp [ih.1], fun j h1 h2 => ?_⟩
    cases j with
    | zero => exact h
    | succ j => exact ih.2 j (by simpa using h1) (by simpa using h2)
/-- Rows, each weakened. -/
inductive WkLL : List (List AV) → List (List AV) → Prop
  | nil : WkLL [] []
  | cons {x y : List AV} {xs ys : List (List AV)} (h : WkL x y) (t : WkLL xs ys) : WkLL (x :: xs) (y :: ys)
theorem WkLL.get {xs ys : List (List AV)} (h : WkLL xs ys) : xs.length = ys.length ∧ ∀ j (h1 : j < xs.length) (h2 : j < ys.length), WkL xs[j] ys[j] := by
  induction h with
  | nil => exact ⟨rfl, fun j h1 => absurd h1 (by simp)⟩
  | cons h t ih =>
    refine ⟨by simp [ih.1], fun j h1 h2 => ?_⟩
    cases j with
    | zero => exact h
    | succ j => exact ih.2 j (by simpa using h1) (by simpa using h2)
theorem Wk.rows {nn : Bool} {n : Nat} {rows rows' : List (List AV)} (h : WkLL rows rows') : Wk (.sl nn n rows) (.sl false n rows') := fun M v hv => by
  obtain ⟨hl, hg⟩ := h.get
  cases hv with
  | nil _ _ a ha =>
    obtain rfl : rows' = [] := List.eq_nil_of_length_eq_zero hl.symm
    exact .nil _ _ a (fun h => nomatch h)
  | sl _ _ _ b off cap cs hsz hM hR hc hm =>
    rw [hl]
    refine .sl _ _ _ b off cap cs (fun i hi => ?_) (fun k hk => hM k (by rw [hl]; exact hk)) (fun i hi j hj => ?_) (by omega) hm
    · have := (hg i (by omega) hi).get.1
      rw [← this]; exact hsz i (by omega)
    · have hgi := (hg i (by omega) hi).get
      have := hR i (by omega) j (by rw [hgi.1]; exact hj)
      exact hgi.2 j (by rw [hgi.1]; exact hj) hj M _ this
end Go.Sx
namespace Go.Proofs.YtklncofkcfjkeaaGreatDoor
open Go.Sx Go.Proofs
abbrev aS : Str := ⟨#[97]⟩
abbrev bS : Str := ⟨#[98]⟩
abbrev cS : Str := ⟨#[99]⟩
def eurF : List Fac := [⟨⟨#[101, 117, 114]⟩, 1⟩]
def coinE : Ex := ⟨1, ⟨#[]⟩, ⟨#[]⟩, ⟨#[]⟩, ⟨2, 2, ⟨#[]⟩⟩, eurF, 0, ⟨0, 0⟩, []⟩
def zeroE : Ex := ⟨1, ⟨#[]⟩, ⟨#[]⟩, ⟨#[]⟩, ⟨2, 0, ⟨#[]⟩⟩, [], 0, ⟨0, 0⟩, []⟩
def keyE : Ex := ⟨1, ⟨#[]⟩, ⟨#[115, 104, 111, 112]⟩, ⟨#[]⟩, ⟨5, 0, ⟨#[115, 49]⟩⟩, [], 0, ⟨0, 0⟩, []⟩
def choE : Ex := ⟨8, ⟨#[]⟩, ⟨#[]⟩, ⟨#[]⟩, ⟨0, 0, ⟨#[]⟩⟩, [], 0, ⟨0, 0⟩, [nameE aS, nameE bS, nameE cS]⟩
def defE : Ex := ⟨9, ⟨#[]⟩, ⟨#[]⟩, ⟨#[]⟩, ⟨0, 0, ⟨#[]⟩⟩, [], 0, ⟨0, 0⟩, [choE, zeroE]⟩
def lookE : Ex := ⟨4, ⟨#[]⟩, ⟨#[114, 97, 110, 107]⟩, ⟨#[]⟩, ⟨0, 0, ⟨#[]⟩⟩, [], 0, ⟨0, 0⟩, [keyE]⟩
def cntE : Ex := ⟨5, ⟨#[99, 111, 117, 110, 116]⟩, ⟨#[]⟩, ⟨#[99, 108, 105, 99, 107, 115]⟩, ⟨0, 0, ⟨#[]⟩⟩, [], 0, ⟨1, 0⟩, [tru, tru]⟩
def quaE : Ex := ⟨5, ⟨#[113, 117, 97, 110, 116, 105, 108, 101]⟩, ⟨#[]⟩, ⟨#[99, 97, 108, 108, 115]⟩, ⟨0, 0, ⟨#[]⟩⟩, [], 950, ⟨2, 60⟩, [fieldE ⟨#[109, 115]⟩, fieldE ⟨#[111, 107]⟩]⟩
theorem prints_true {x : Ex} {s : Str} (hs : x.size ≤ 100) (h : exprS x = s ∧ shape x = 0) : Pure Tryz.prog 23 [.agg x.row, sv s] (.v (.bool true)) := by
  have := prints_ok x hs s
  rwa [decide_eq_true h] at this
theorem pr_defE : Pure Tryz.prog 23 [.agg defE.row, sv ⟨#[40, 105, 102, 32, 97, 32, 116, 104, 101, 110, 32, 98, 32, 101, 108, 115, 101, 32, 99, 41, 32, 100, 101, 102, 97, 117, 108, 116, 32, 48]⟩] (.v (.bool true)) := prints_true (by decide +kernel) (by decide +kernel)
theorem pr_lookE : Pure Tryz.prog 23 [.agg lookE.row, sv ⟨#[114, 97, 110, 107, 32, 111, 102, 32, 40, 64, 115, 104, 111, 112, 32, 34, 115, 49, 34, 41]⟩] (.v (.bool true)) := prints_true (by decide +kernel) (by decide +kernel)
theorem pr_cntE : Pure Tryz.prog 23 [.agg cntE.row, sv ⟨#[99, 111, 117, 110, 116, 40, 99, 108, 105, 99, 107, 115, 44, 32, 97, 108, 108, 41]⟩] (.v (.bool true)) := prints_true (by decide +kernel) (by decide +kernel)
theorem pr_quaE : Pure Tryz.prog 23 [.agg quaE.row, sv ⟨#[113, 117, 97, 110, 116, 105, 108, 101, 40, 99, 97, 108, 108, 115, 44, 32, 109, 115, 44, 32, 57, 53, 48, 44, 32, 115, 108, 105, 100, 105, 110, 103, 32, 54, 48, 32, 119, 104, 101, 114, 101, 32, 111, 107, 41]⟩] (.v (.bool true)) := prints_true (by decide +kernel) (by decide +kernel)
def tab1 : Tab := ⟨⟨#[116]⟩, ⟨#[117, 115, 101, 114]⟩, [⟨⟨#[120]⟩, ⟨3, eurF, ⟨#[]⟩⟩⟩, ⟨⟨#[121]⟩, ⟨1, [], ⟨#[]⟩⟩⟩], 9⟩
def tab2 : Tab := ⟨⟨#[116]⟩, ⟨#[117, 115, 101, 114]⟩, [], 0⟩
theorem pr_tab1 : Pure Tryz.prog 16 [.agg tab1.cells] (.tup [sv ⟨#[116, 97, 98, 108, 101, 32, 116, 32, 111, 102, 32, 117, 115, 101, 114, 32, 123, 32, 120, 58, 32, 100, 101, 99, 32, 91, 101, 117, 114, 93, 44, 32, 121, 58, 32, 98, 111, 111, 108, 32, 125, 32, 107, 101, 101, 112, 32, 57, 59]⟩, iv 0]) := by
  have := tableP_ok tab1
  rwa [show tabErr tab1 = 0 by decide +kernel, if_pos rfl, show tabS tab1 = ⟨#[116, 97, 98, 108, 101, 32, 116, 32, 111, 102, 32, 117, 115, 101, 114, 32, 123, 32, 120, 58, 32, 100, 101, 99, 32, 91, 101, 117, 114, 93, 44, 32, 121, 58, 32, 98, 111, 111, 108, 32, 125, 32, 107, 101, 101, 112, 32, 57, 59]⟩ by decide +kernel] at this
theorem pr_tab2 : Pure Tryz.prog 16 [.agg tab2.cells] (.tup [sv ⟨#[116, 97, 98, 108, 101, 32, 116, 32, 111, 102, 32, 117, 115, 101, 114, 32, 123, 32, 125, 59]⟩, iv 0]) := by
  have := tableP_ok tab2
  rwa [show tabErr tab2 = 0 by decide +kernel, if_pos rfl, show tabS tab2 = ⟨#[116, 97, 98, 108, 101, 32, 116, 32, 111, 102, 32, 117, 115, 101, 114, 32, 123, 32, 125, 59]⟩ by decide +kernel] at this
theorem pr_x : Pure Tryz.prog 9 [.agg (fieldE ⟨#[120]⟩).row] (.tup [sv ⟨#[]⟩, iv 3]) := by
  have := expr_ok (fieldE ⟨#[120]⟩) (by decide +kernel)
  rwa [show exprS (fieldE ⟨#[120]⟩) = ⟨#[]⟩ by decide +kernel, show shape (fieldE ⟨#[120]⟩) = 3 by decide +kernel] at this
theorem example_ok : Pure Tryz.prog 6 [] (.v (.bool true)) := by
  refine Pure.runk (fun _ => 0) Tryz.func6 comp6 era6 (Nat.le_of_ble_eq_true rfl) fun σ => ?_
  repeat' (first | exact .nil | refine .k0 ?_ | refine .k1 ?_ | refine .k2 ?_ | refine .k3 ?_ | refine .k4 ?_ | refine .k5 ?_ | refine .k6 ?_ | refine .k7 ?_ | refine .k8 ?_ | refine .k9 ?_ | (refine .cd ?_ ?_ <;> first | with_reducible exact tF | with_reducible exact fT | (intro hc; first | exact kf hc (by assumption) | exact kt hc (by assumption) | skip)) | refine .r1 ?_ ?_ | (refine .l1 ?_; intro b) | (refine .m1 ?_ ?_; intro b) | (refine .m2 ?_ ?_; intro hlen) | (refine .m3 ?_ ?_; intro hlen) | refine .t1 ?_ ?_ ?_ | refine .t2 ?_ ?_ ?_ | refine .t3 ?_ ?_ ?_ | refine .t4 ?_ ?_ ?_ | (refine .l2 ?_; intro b) | refine .u1 ?_ ?_ ?_ (fun b u c => ?_) | refine .u2 ?_ ?_ ?_ (fun b u c => ?_) | refine .an rfl (by intro hob; first | exact nameE_ok _ | exact fieldE_ok _ | exact true_ok | exact twoE_ok _ _ _ | exact oneE_ok _ _ | (refine (twoE_ok ⟨#[42]⟩ (nameE bS) coinE).wk ?_; (repeat' first | exact .row | exact .refl _ | exact .nil | refine .cons ?_ ?_ | refine .tup ?_ | refine .agg ?_ | exact .sl | exact .own _); done) | (refine (pr_defE).wk ?_; ((repeat' first | exact .refl _ | exact .nil | refine .agg ?_ | refine .cons ?_ ?_ | refine .rows ?_); done)) | (refine (pr_lookE).wk ?_; ((repeat' first | exact .refl _ | exact .nil | refine .agg ?_ | refine .cons ?_ ?_ | refine .rows ?_); done)) | (refine (pr_cntE).wk ?_; ((repeat' first | exact .refl _ | exact .nil | refine .agg ?_ | refine .cons ?_ ?_ | refine .rows ?_); done)) | (refine (pr_quaE).wk ?_; ((repeat' first | exact .refl _ | exact .nil | refine .agg ?_ | refine .cons ?_ ?_ | refine .rows ?_); done)) | (refine (pr_tab1).wk ?_; ((repeat' first | exact .refl _ | exact .nil | refine .agg ?_ | refine .cons ?_ ?_ | refine .rows ?_); done)) | (refine (pr_tab2).wk ?_; ((repeat' first | exact .refl _ | exact .nil | refine .agg ?_ | refine .cons ?_ ?_ | refine .rows ?_); done)) | (refine (pr_x).wk ?_; ((repeat' first | exact .refl _ | exact .nil | refine .agg ?_ | refine .cons ?_ ?_ | refine .rows ?_); done)) | exact pr_x | exact prints_true (by decide +kernel) (by decide +kernel)) ?_ ?_ | refine .t5 ?_ ?_ ?_ | refine .t6 ?_ ?_ ?_ | refine .t7 ?_ ?_ ?_ | refine .r2 ?_ ?_ | refine .r3 ?_ ?_ | refine .r4 ?_ ?_ | refine .r5 ?_ ?_ | (refine .l3 ?_; intro b) | refine .r6 ?_ ?_ | refine .r7 ?_ ?_ | refine .r8 ?_ ?_ | refine .r9 ?_ ?_ | refine .ra ?_ ?_ | (show List.all _ _ = true; rfl) | (show (_ : Nat) = _; rfl))
  all_goals try (exact absurd hc (by decide))
  any_goals exact Nat.le_of_ble_eq_true rfl
  · intro _; exact Nat.le_of_ble_eq_true rfl
  · exact Sx.Fin.intro (by repeat' first | exact .refl _ | refine .same ?_ | refine .cons ?_) (congrArg (fun b => AV.v (.bool b)) (by decide +kernel))
theorem few_100 {x : Ex} (h : ¬ few x 100 < 0) : x.size ≤ 100 := by
  have := (few_size x 100 (by decide)).2.2 (by omega)
  omega
theorem printerExprs_ok (x : Ex) (t : Ty) (hw : x.wt ≤ 2 ^ 60) (ht : t.of.size ≤ 2 ^ 59) : Pure Tryz.prog 4 [.agg x.row, .agg t.cells] (.v (.bool true)) := by
  rw [Ex.row_eq x]
  refine Pure.runk (fun _ => 0) Tryz.func4 comp4 era4 (Nat.le_of_ble_eq_true rfl) fun σ => ?_
  repeat' (first | exact .nil | refine .k0 ?_ | refine .k1 ?_ | refine .k2 ?_ | refine .k3 ?_ | refine .k4 ?_ | refine .k5 ?_ | refine .k6 ?_ | refine .k7 ?_ | refine .k8 ?_ | refine .k9 ?_ | (refine .cd ?_ ?_ <;> first | with_reducible exact tF | with_reducible exact fT | (intro hc; first | exact kf hc (by assumption) | exact kt hc (by assumption) | skip)) | refine .r1 ?_ ?_ | (refine .l1 ?_; intro b) | (refine .m1 ?_ ?_; intro b) | (refine .m2 ?_ ?_; intro hlen) | (refine .m3 ?_ ?_; intro hlen) | refine .t1 ?_ ?_ ?_ | refine .t2 ?_ ?_ ?_ | refine .t3 ?_ ?_ ?_ | refine .t4 ?_ ?_ ?_ | (refine .l2 ?_; intro b) | refine .u1 ?_ ?_ ?_ (fun b u c => ?_) | refine .u2 ?_ ?_ ?_ (fun b u c => ?_) | refine .an rfl (by intro hob; first | exact example_ok | (refine (few_ok x hw 100 (by decide)).wk ?_; (repeat' first | exact .row | exact .refl _ | exact .nil | refine .cons ?_ ?_ | refine .tup ?_ | refine .agg ?_ | exact .sl | exact .own _); done) | exact few_ok x hw 100 (by decide) | exact fewType_ok t ht | (refine (expr_ok x (few_100 (by first | omega | (simp only [BL] at *; omega)))).wk ?_; (repeat' first | exact .row | exact .refl _ | exact .nil | refine .cons ?_ ?_ | refine .tup ?_ | refine .agg ?_ | exact .sl | exact .own _); done) | (refine (exprR_ok x (few_100 (by first | omega | (simp only [BL] at *; omega)))).wk ?_; (repeat' first | exact .row | exact .refl _ | exact .nil | refine .cons ?_ ?_ | refine .tup ?_ | refine .agg ?_ | exact .sl | exact .own _); done) | exact typeP_ok t | exact typeP11_ok t) ?_ ?_ | refine .t5 ?_ ?_ ?_ | refine .t6 ?_ ?_ ?_ | refine .t7 ?_ ?_ ?_ | refine .r2 ?_ ?_ | refine .r3 ?_ ?_ | refine .r4 ?_ ?_ | refine .r5 ?_ ?_ | (refine .l3 ?_; intro b) | refine .r6 ?_ ?_ | refine .r7 ?_ ?_ | refine .r8 ?_ ?_ | refine .r9 ?_ ?_ | refine .ra ?_ ?_ | (show List.all _ _ = true; rfl) | (show (_ : Nat) = _; rfl))
  try any_goals ((intro hob; first | (simp_all; done) | (simp only [BL] at *; first | (simp_all; done) | omega)))
  all_goals (try simp only [BL] at *)
  · exact absurd hc (by decide)
  · exact Sx.Fin.intro (by repeat' first | exact .refl _ | refine .same ?_ | refine .cons ?_) rfl
  · exact Sx.Fin.intro (by repeat' first | exact .refl _ | refine .same ?_ | refine .cons ?_) (congrArg (fun b => AV.v (.bool b)) (by simp))
end Go.Proofs.YtklncofkcfjkeaaGreatDoor
