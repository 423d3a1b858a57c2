
/- CatalogOrders. -/
import Derived.Test.YtekngilbecjkhaaGreatDoorFd
set_option linter.unusedSimpArgs false
set_option linter.unusedVariables false
set_option maxRecDepth 100000
set_option maxHeartbeats 4000000
namespace Go.Proofs.YtekngilbecjkhaaGreatDoor
open Go.Sx Go.Proofs Go.Tb
theorem uses_before {fs : List Fea} {l : List Str} (h : OInv (deps fs) (namesF fs) l) {i : Nat} (hi : i < l.length) : (∀ m ∈ usesF fs ((findF fs l[i]).getD zfe).body, inF fs m = true → m ∈ l.take i) ∧ l[i] ∉ usesF fs ((findF fs l[i]).getD zfe).body := by
  obtain ⟨f, hf⟩ := order_in h hi
  rw [hf]
  have h1 : ∀ m ∈ usesF fs f.body, inF fs m = true → m ∈ l.take i := fun m hm hin => order_reach h hi hf (usesF_mem.1 hm) hin
  exact ⟨h1, fun hm => order_own h hi (h1 _ hm (by unfold inF; rw [hf]; rfl))⟩
theorem take1 {l : List Str} {i : Nat} (hi : i < l.length) : l.take (i + 1) = l.take i ++ [l.getD i default] := by
  rw [List.take_succ_eq_append_getElem hi, getD_eq hi]
theorem catalogOrders_ok (c : Cat) (hc0 : c.Fits) : Pure Tryz.prog 7 [.agg c.cells] (.v (.bool true)) := by
  by_cases hs : Small c
  rotate_left
  · have hS := small_f hs
    refine Pure.runk (fun _ => 0) Tryz.func7 comp7 era7 (Nat.le_of_ble_eq_true rfl) fun σ => ?_
    repeat' (first | exact .nil | refine .k0 ?_ | refine .k1 ?_ | refine .k2 ?_ | refine .k3 ?_ | refine .k4 ?_ | refine .k5 ?_ | refine .k6 ?_ | refine .k7 ?_ | refine .k8 ?_ | refine .k9 ?_ | (refine .cd ?_ ?_ <;> first | with_reducible exact tF | with_reducible exact fT | (intro hc; first | exact kf hc (by assumption) | exact kt hc (by assumption) | skip)) | refine .r1 ?_ ?_ | (refine .l1 ?_; intro b) | (refine .m1 ?_ ?_; intro b) | (refine .m2 ?_ ?_; intro hlen) | (refine .m3 ?_ ?_; intro hlen) | refine .t1 ?_ ?_ ?_ | refine .t2 ?_ ?_ ?_ | refine .t3 ?_ ?_ ?_ | refine .t4 ?_ ?_ ?_ | (refine .l2 ?_; intro b) | refine .u1 ?_ ?_ ?_ (fun b u c => ?_) | refine .u2 ?_ ?_ ?_ (fun b u c => ?_) | refine .u4 ?_ ?_ (fun b u c => ?_) | refine .u5 ?_ ?_ ?_ | refine .u3 ?_ ?_ (fun hr0 => ?_) (fun hr1 b u c => ?_) | refine .an rfl (by intro hob; first | exact hS | exact featC_ok c _ | exact hM (by first | omega | (simp only [BL] at *; omega)) | (refine (hMk (by first | omega | (simp only [BL] at *; omega)) (by first | assumption | (simp only [BL] at *; assumption) | (simp_all; done))).wk ?_; (repeat' first | exact .refl _ | exact .nil | exact .own _ | refine .cons ?_ ?_); done) | exact hO | exact hY | exact hNm | exact hA | exact hB | exact hJ2 | (refine hI2.wk ?_; (repeat' first | exact .refl _ | exact .nil | exact .own _ | refine .cons ?_ ?_); done) | exact hK | exact hL | exact hD | exact example_ok) ?_ ?_ | refine .t5 ?_ ?_ ?_ | refine .t6 ?_ ?_ ?_ | refine .t7 ?_ ?_ ?_ | refine .r2 ?_ ?_ | refine .r3 ?_ ?_ | refine .r4 ?_ ?_ | refine .r5 ?_ ?_ | (refine .l3 ?_; intro b) | refine .r6 ?_ ?_ | refine .r7 ?_ ?_ | refine .r8 ?_ ?_ | refine .r9 ?_ ?_ | refine .ra ?_ ?_ | (show List.all _ _ = true; rfl) | (show (_ : Nat) = _; rfl))
    try any_goals ((intro hob; first | (simp_all; done) | (simp only [BL] at *; first | (simp_all; done) | omega)))
    all_goals (try simp only [BL] at *)
    all_goals first | (show Sx.Fin _ _ _ _; (refine Sx.Fin.wk (by repeat' first | exact .refl _ | refine .same ?_ | refine .cons ?_) ?_; repeat' first | exact .refl _ | exact .nil | refine .cons ?_ ?_ | refine .tup ?_ | refine .agg ?_ | exact .sl | exact .own _); done) | (exfalso; exact absurd hc (by decide))
  have hS := small_t hs
  have hO := order_ok c (cfit hs hc0)
  have hY := cycle_ok c (cfit hs hc0)
  have hNm := names12_ok c (by have := hs.f; omega)
  obtain ⟨hinv, hnext⟩ := orderL_ok (deps c.features) (namesF c.features)
  have hnl := namesF_len c.features
  have hf40 := hs.f
  have hl40 : (orderL (deps c.features) (namesF c.features)).length ≤ 40 := by have := hinv.len; omega
  have hcy := cycL_is (deps c.features) (deps_srt c.features) (namesF_srt c.features) (fun x y h => deps_to h) (by omega)
  have hall := order_all c.features hcy
  generalize orderL (deps c.features) (namesF c.features) = l at *
  generalize cycL (deps c.features) (namesF c.features) = Y at *
  refine Pure.runk (fun _ => 0) Tryz.func7 comp7 era7 (Nat.le_of_ble_eq_true rfl) fun σ => ?_
  repeat' (first | exact .nil | refine .k0 ?_ | refine .k1 ?_ | refine .k2 ?_ | refine .k3 ?_ | refine .k4 ?_ | refine .k5 ?_ | refine .k6 ?_ | refine .k7 ?_ | refine .k8 ?_ | refine .k9 ?_ | (refine .cd ?_ ?_ <;> first | with_reducible exact tF | with_reducible exact fT | (intro hc; first | exact kf hc (by assumption) | exact kt hc (by assumption) | skip)) | refine .r1 ?_ ?_ | (refine .l1 ?_; intro b) | (refine .m1 ?_ ?_; intro b) | (refine .m2 ?_ ?_; intro hlen) | (refine .m3 ?_ ?_; intro hlen) | refine .t1 ?_ ?_ ?_ | refine .t2 ?_ ?_ ?_ | refine .t3 ?_ ?_ ?_ | refine .t4 ?_ ?_ ?_ | (refine .l2 ?_; intro b) | refine .u1 ?_ ?_ ?_ (fun b u c => ?_) | refine .u2 ?_ ?_ ?_ (fun b u c => ?_) | refine .u4 ?_ ?_ (fun b u c => ?_) | refine .u5 ?_ ?_ ?_ | refine .u3 ?_ ?_ (fun hr0 => ?_) (fun hr1 b u c => ?_) | refine .an rfl (by intro hob; first | exact hS | exact featC_ok c _ | exact hM (by first | omega | (simp only [BL] at *; omega)) | (refine (hMk (by first | omega | (simp only [BL] at *; omega)) (by first | assumption | (simp only [BL] at *; assumption) | (simp_all; done))).wk ?_; (repeat' first | exact .refl _ | exact .nil | exact .own _ | refine .cons ?_ ?_); done) | exact hO | exact hY | exact hNm | exact hA | exact hB | exact hJ2 | (refine hI2.wk ?_; (repeat' first | exact .refl _ | exact .nil | exact .own _ | refine .cons ?_ ?_); done) | exact hK | exact hL | exact hD | exact example_ok) ?_ ?_ | refine .t5 ?_ ?_ ?_ | refine .t6 ?_ ?_ ?_ | refine .t7 ?_ ?_ ?_ | refine .r2 ?_ ?_ | refine .r3 ?_ ?_ | refine .r4 ?_ ?_ | refine .r5 ?_ ?_ | (refine .l3 ?_; intro b) | refine .r6 ?_ ?_ | refine .r7 ?_ ?_ | refine .r8 ?_ ?_ | refine .r9 ?_ ?_ | refine .ra ?_ ?_ | (show List.all _ _ = true; rfl) | (show (_ : Nat) = _; rfl))
  try any_goals ((intro hob; first | (simp_all; done) | (simp only [BL] at *; first | (simp_all; done) | omega)))
  all_goals (try simp only [BL] at *)
  · show Sx.Fin _ _ _ _; (refine Sx.Fin.wk (by repeat' first | exact .refl _ | refine .same ?_ | refine .cons ?_) ?_; repeat' first | exact .refl _ | exact .nil | refine .cons ?_ ?_ | refine .tup ?_ | refine .agg ?_ | exact .sl | exact .own _)
  rename Nat => b1
  refine WK_loop (fun m rg σ' => ∃ (i : Nat) (x4 : AV) (τ : Store), i ≤ l.length ∧ m = l.length - i ∧ ((i = 0 ∧ x4 = nilA ∧ τ = []) ∨ (0 < i ∧ ∃ b4 u4 c4, x4 = .own 1 95 b4 u4 c4 ((l.take i).map strRow) ∧ τ = [(95, b4, .tail u4 c4)])) ∧ σ' = τ ++ (1, b1, Blk.cells c.cells) :: σ ∧ rg = [(1, .lp 1 b1 0), (3, strsV l), (4, x4), (5, iv i)]) l.length rfl ⟨_, _, by repeat' first | exact .row | exact .refl _ | exact .nil | refine .cons ?_ ?_ | refine .tup ?_ | refine .agg ?_ | exact .sl | exact .own _ | exact .tag, by repeat' first | exact .refl _ | refine .same ?_ | refine .cons ?_, 0, _, [], Nat.zero_le _, rfl, .inl ⟨rfl, rfl, rfl⟩, rfl, rfl⟩ ?_
  rintro m _ _ ⟨i, x4, τ, hi, hm, hx4, rfl, rfl⟩
  have hA := featC_ok c (l.getD i default)
  have hg := got_small hs hc0 (l.getD i default)
  have hB := uses_row c _ hs hc0 hg.1 hg.2
  have hI : i < l.length → Pure Tryz.prog 25 [strsA (l.take i), sv (l.getD i default)] (.v (.bool false)) := fun h => in_f (by rw [getD_eq h]; exact order_own hinv h)
  have hJ : i < l.length → Pure Tryz.prog 25 [strsA (usesF c.features ((findF c.features (l.getD i default)).getD zfe).body), sv (l.getD i default)] (.v (.bool false)) := fun h => in_f (by rw [getD_eq h]; exact (uses_before hinv h).2)
  have hsome : i < l.length → (findF c.features (l.getD i default)).isSome = true := fun h => by rw [getD_eq h]; obtain ⟨f, hf⟩ := order_in hinv h; rw [hf]; rfl
  have hFc : ∀ j, j < Y.length → (findF c.features (Y.getD j default)).isSome = true ∧ Y.getD ((j + 1) % Y.length) default ∈ dirF ((findF c.features (Y.getD j default)).getD zfe).body ∧ (0 < j → sLt (Y.getD 0 default) (Y.getD j default) = true) := fun j hj => by
    obtain ⟨h1, h2⟩ := cyc_facts (fun x y h => deps_to h) hcy hj
    obtain ⟨f, h3, h4, h5⟩ := deps_mem.1 h1
    rw [getD_eq hj, getD_eq (Nat.mod_lt _ (by omega)), getD_eq (by omega : 0 < Y.length), h3]
    exact ⟨rfl, dirF_mem.2 h4, h2⟩
  rcases Nat.lt_or_ge i l.length with hl0 | hl0
  rotate_left
  · rcases hx4 with ⟨rfl, rfl, rfl⟩ | ⟨h0, b4, u4, c4, rfl, rfl⟩
    all_goals
      repeat' (first | exact .nil | refine .k0 ?_ | refine .k1 ?_ | refine .k2 ?_ | refine .k3 ?_ | refine .k4 ?_ | refine .k5 ?_ | refine .k6 ?_ | refine .k7 ?_ | refine .k8 ?_ | refine .k9 ?_ | (refine .cd ?_ ?_ <;> first | with_reducible exact tF | with_reducible exact fT | (intro hc; first | exact kf hc (by assumption) | exact kt hc (by assumption) | skip)) | refine .r1 ?_ ?_ | (refine .l1 ?_; intro b) | (refine .m1 ?_ ?_; intro b) | (refine .m2 ?_ ?_; intro hlen) | (refine .m3 ?_ ?_; intro hlen) | refine .t1 ?_ ?_ ?_ | refine .t2 ?_ ?_ ?_ | refine .t3 ?_ ?_ ?_ | refine .t4 ?_ ?_ ?_ | (refine .l2 ?_; intro b) | refine .u1 ?_ ?_ ?_ (fun b u c => ?_) | refine .u2 ?_ ?_ ?_ (fun b u c => ?_) | refine .u4 ?_ ?_ (fun b u c => ?_) | refine .u5 ?_ ?_ ?_ | refine .u3 ?_ ?_ (fun hr0 => ?_) (fun hr1 b u c => ?_) | refine .an rfl (by intro hob; first | exact hS | exact featC_ok c _ | exact hM (by first | omega | (simp only [BL] at *; omega)) | (refine (hMk (by first | omega | (simp only [BL] at *; omega)) (by first | assumption | (simp only [BL] at *; assumption) | (simp_all; done))).wk ?_; (repeat' first | exact .refl _ | exact .nil | exact .own _ | refine .cons ?_ ?_); done) | exact hO | exact hY | exact hNm | exact hA | exact hB | exact hJ2 | (refine hI2.wk ?_; (repeat' first | exact .refl _ | exact .nil | exact .own _ | refine .cons ?_ ?_); done) | exact hK | exact hL | exact hD | exact example_ok) ?_ ?_ | refine .t5 ?_ ?_ ?_ | refine .t6 ?_ ?_ ?_ | refine .t7 ?_ ?_ ?_ | refine .r2 ?_ ?_ | refine .r3 ?_ ?_ | refine .r4 ?_ ?_ | refine .r5 ?_ ?_ | (refine .l3 ?_; intro b) | refine .r6 ?_ ?_ | refine .r7 ?_ ?_ | refine .r8 ?_ ?_ | refine .r9 ?_ ?_ | refine .ra ?_ ?_ | (show List.all _ _ = true; rfl) | (show (_ : Nat) = _; rfl))
      try any_goals ((intro hob; first | (simp_all; done) | (simp only [BL] at *; first | (simp_all; done) | omega)))
      all_goals (try simp only [BL] at *)
      · exfalso; omega
      · exfalso
        have : decide ((l.length : Int) = ((namesF c.features).length : Int)) = decide ((Y.length : Int) = 0) := by
          rw [decide_eq_decide]
          rw [show ((Y.length : Int) = 0) ↔ Y = [] by rw [← List.length_eq_zero_iff]; omega]
          rw [← hall]; omega
        rw [this] at hc
        simp at hc
      refine WK_loop (fun m rg σ' => ∃ j : Nat, j ≤ Y.length ∧ m = Y.length - j ∧ σ' = (1, b1, Blk.cells c.cells) :: σ ∧ rg = [(1, .lp 1 b1 0), (13, strsV Y), (14, iv j)]) Y.length rfl ⟨_, _, by repeat' first | exact .row | exact .refl _ | exact .nil | refine .cons ?_ ?_ | refine .tup ?_ | refine .agg ?_ | exact .sl | exact .own _ | exact .tag, by repeat' first | exact .refl _ | refine .same ?_ | refine .cons ?_, 0, Nat.zero_le _, rfl, rfl, rfl⟩ ?_
      rintro m2 _ _ ⟨j, hj, hm2, rfl, rfl⟩
      have hK := featC_ok c (Y.getD j default)
      have hL := direct_nil _ (got_small hs hc0 (Y.getD j default)).1
      have hq : j < Y.length → (IntKind.i64.wrap ((j : Int) + 1)).tmod Y.length = ((j + 1) % Y.length : Nat) := fun h => by
        rw [up1 (n := Y.length) h (by assumption)]; rfl
      have hq2 : j < Y.length → 0 ≤ (IntKind.i64.wrap ((j : Int) + 1)).tmod Y.length ∧ (IntKind.i64.wrap ((j : Int) + 1)).tmod Y.length < Y.length := fun h => by
        rw [hq h]; have := Nat.mod_lt (j + 1) (show 0 < Y.length by omega); omega
      have hM : j < Y.length → Pure Tryz.prog 25 [strsA (dirF ((findF c.features (Y.getD j default)).getD zfe).body), sv (Y.getD ((IntKind.i64.wrap ((j : Int) + 1)).tmod Y.length).toNat default)] (.v (.bool true)) := fun h => in_t (by rw [hq h]; exact (hFc j h).2.1)
      repeat' (first | exact .nil | refine .k0 ?_ | refine .k1 ?_ | refine .k2 ?_ | refine .k3 ?_ | refine .k4 ?_ | refine .k5 ?_ | refine .k6 ?_ | refine .k7 ?_ | refine .k8 ?_ | refine .k9 ?_ | (refine .cd ?_ ?_ <;> first | with_reducible exact tF | with_reducible exact fT | (intro hc; first | exact kf hc (by assumption) | exact kt hc (by assumption) | skip)) | refine .r1 ?_ ?_ | (refine .l1 ?_; intro b) | (refine .m1 ?_ ?_; intro b) | (refine .m2 ?_ ?_; intro hlen) | (refine .m3 ?_ ?_; intro hlen) | refine .t1 ?_ ?_ ?_ | refine .t2 ?_ ?_ ?_ | refine .t3 ?_ ?_ ?_ | refine .t4 ?_ ?_ ?_ | (refine .l2 ?_; intro b) | refine .u1 ?_ ?_ ?_ (fun b u c => ?_) | refine .u2 ?_ ?_ ?_ (fun b u c => ?_) | refine .u4 ?_ ?_ (fun b u c => ?_) | refine .u5 ?_ ?_ ?_ | refine .u3 ?_ ?_ (fun hr0 => ?_) (fun hr1 b u c => ?_) | refine .an rfl (by intro hob; first | exact hS | exact featC_ok c _ | exact hM (by first | omega | (simp only [BL] at *; omega)) | (refine (hMk (by first | omega | (simp only [BL] at *; omega)) (by first | assumption | (simp only [BL] at *; assumption) | (simp_all; done))).wk ?_; (repeat' first | exact .refl _ | exact .nil | exact .own _ | refine .cons ?_ ?_); done) | exact hO | exact hY | exact hNm | exact hA | exact hB | exact hJ2 | (refine hI2.wk ?_; (repeat' first | exact .refl _ | exact .nil | exact .own _ | refine .cons ?_ ?_); done) | exact hK | exact hL | exact hD | exact example_ok) ?_ ?_ | refine .t5 ?_ ?_ ?_ | refine .t6 ?_ ?_ ?_ | refine .t7 ?_ ?_ ?_ | refine .r2 ?_ ?_ | refine .r3 ?_ ?_ | refine .r4 ?_ ?_ | refine .r5 ?_ ?_ | (refine .l3 ?_; intro b) | refine .r6 ?_ ?_ | refine .r7 ?_ ?_ | refine .r8 ?_ ?_ | refine .r9 ?_ ?_ | refine .ra ?_ ?_ | (show List.all _ _ = true; rfl) | (show (_ : Nat) = _; rfl))
      try any_goals ((intro hob; first | (simp_all; done) | (simp only [BL] at *; first | (simp_all; done) | omega)))
      all_goals (try simp only [BL] at *)
      · exfalso
        obtain ⟨h1, h2, h3⟩ := hFc j (by omega)
        rcases hc with hc | ⟨hc1, hc2 | hc2⟩
        · rw [h1] at hc; cases hc
        · have h4 := sLt_asymm (h3 (by omega))
          have hc2 : sLt (Y.getD j default) (Y.getD 0 default) = true := hc2
          rw [h4] at hc2; cases hc2
        · have h4 := h3 (by omega)
          rw [hc2, sLt_irrefl] at h4; cases h4
      · exact ⟨Y.length - (j + 1), by omega, _, _, by repeat' first | exact .row | exact .refl _ | exact .nil | refine .cons ?_ ?_ | refine .tup ?_ | refine .agg ?_ | exact .sl | exact .own _ | exact .tag, by repeat' first | exact .refl _ | refine .same ?_ | refine .cons ?_, j + 1, by omega, rfl, rfl, by rw [up1 (n := Y.length) (by omega) (by assumption)]⟩
      · show Sx.Fin _ _ _ _; (refine Sx.Fin.wk (by repeat' first | exact .refl _ | refine .same ?_ | refine .cons ?_) ?_; repeat' first | exact .refl _ | exact .nil | refine .cons ?_ ?_ | refine .tup ?_ | refine .agg ?_ | exact .sl | exact .own _)
  have hI2 := hI hl0
  have hJ2 := hJ hl0
  have hs2 := hsome hl0
  obtain ⟨hU1, _⟩ := uses_before hinv hl0
  rw [← getD_eq hl0] at hU1
  have hMk0 : ∀ k, k < (usesF c.features ((findF c.features (l.getD i default)).getD zfe).body).length → inF c.features ((usesF c.features ((findF c.features (l.getD i default)).getD zfe).body).getD k default) = true → Pure Tryz.prog 25 [strsA (l.take i), sv ((usesF c.features ((findF c.features (l.getD i default)).getD zfe).body).getD k default)] (.v (.bool true)) := fun k h h2 => in_t (hU1 _ (getD_mem h) h2)
  rcases hx4 with ⟨rfl, rfl, rfl⟩ | ⟨h0, b4, u4, c4, rfl, rfl⟩
  all_goals
    repeat' (first | exact .nil | refine .k0 ?_ | refine .k1 ?_ | refine .k2 ?_ | refine .k3 ?_ | refine .k4 ?_ | refine .k5 ?_ | refine .k6 ?_ | refine .k7 ?_ | refine .k8 ?_ | refine .k9 ?_ | (refine .cd ?_ ?_ <;> first | with_reducible exact tF | with_reducible exact fT | (intro hc; first | exact kf hc (by assumption) | exact kt hc (by assumption) | skip)) | refine .r1 ?_ ?_ | (refine .l1 ?_; intro b) | (refine .m1 ?_ ?_; intro b) | (refine .m2 ?_ ?_; intro hlen) | (refine .m3 ?_ ?_; intro hlen) | refine .t1 ?_ ?_ ?_ | refine .t2 ?_ ?_ ?_ | refine .t3 ?_ ?_ ?_ | refine .t4 ?_ ?_ ?_ | (refine .l2 ?_; intro b) | refine .u1 ?_ ?_ ?_ (fun b u c => ?_) | refine .u2 ?_ ?_ ?_ (fun b u c => ?_) | refine .u4 ?_ ?_ (fun b u c => ?_) | refine .u5 ?_ ?_ ?_ | refine .u3 ?_ ?_ (fun hr0 => ?_) (fun hr1 b u c => ?_) | refine .an rfl (by intro hob; first | exact hS | exact featC_ok c _ | exact hM (by first | omega | (simp only [BL] at *; omega)) | (refine (hMk (by first | omega | (simp only [BL] at *; omega)) (by first | assumption | (simp only [BL] at *; assumption) | (simp_all; done))).wk ?_; (repeat' first | exact .refl _ | exact .nil | exact .own _ | refine .cons ?_ ?_); done) | exact hO | exact hY | exact hNm | exact hA | exact hB | exact hJ2 | (refine hI2.wk ?_; (repeat' first | exact .refl _ | exact .nil | exact .own _ | refine .cons ?_ ?_); done) | exact hK | exact hL | exact hD | exact example_ok) ?_ ?_ | refine .t5 ?_ ?_ ?_ | refine .t6 ?_ ?_ ?_ | refine .t7 ?_ ?_ ?_ | refine .r2 ?_ ?_ | refine .r3 ?_ ?_ | refine .r4 ?_ ?_ | refine .r5 ?_ ?_ | (refine .l3 ?_; intro b) | refine .r6 ?_ ?_ | refine .r7 ?_ ?_ | refine .r8 ?_ ?_ | refine .r9 ?_ ?_ | refine .ra ?_ ?_ | (show List.all _ _ = true; rfl) | (show (_ : Nat) = _; rfl))
    try any_goals ((intro hob; first | (simp_all; done) | (simp only [BL] at *; first | (simp_all; done) | omega)))
    all_goals (try simp only [BL] at *)
    · exfalso; rw [hs2] at hc; cases hc
    rotate_left
    · exfalso; omega
    · exfalso; omega
    first
      | (show WK _ _ _ _ _ _ [_, _, (4, nilA), _, _, _] _
         refine WK_loop (fun m rg σ' => ∃ k : Nat, k ≤ (usesF c.features ((findF c.features (l.getD 0 default)).getD zfe).body).length ∧ m = (usesF c.features ((findF c.features (l.getD 0 default)).getD zfe).body).length - k ∧ σ' = (1, b1, Blk.cells c.cells) :: σ ∧ rg = [(1, .lp 1 b1 0), (3, strsV l), (4, nilA), (5, iv (0 : Nat)), (8, strsV (usesF c.features ((findF c.features (l.getD 0 default)).getD zfe).body)), (10, iv k)]) (usesF c.features ((findF c.features (l.getD 0 default)).getD zfe).body).length rfl ⟨_, _, by repeat' first | exact .row | exact .refl _ | exact .nil | refine .cons ?_ ?_ | refine .tup ?_ | refine .agg ?_ | exact .sl | exact .own _ | exact .tag, by repeat' first | exact .refl _ | refine .same ?_ | refine .cons ?_, 0, Nat.zero_le _, rfl, rfl, rfl⟩ ?_)
      | refine WK_loop (fun m rg σ' => ∃ k : Nat, k ≤ (usesF c.features ((findF c.features (l.getD i default)).getD zfe).body).length ∧ m = (usesF c.features ((findF c.features (l.getD i default)).getD zfe).body).length - k ∧ σ' = (95, b4, .tail u4 c4) :: (1, b1, Blk.cells c.cells) :: σ ∧ rg = [(1, .lp 1 b1 0), (3, strsV l), (4, .own 1 95 b4 u4 c4 ((l.take i).map strRow)), (5, iv i), (8, strsV (usesF c.features ((findF c.features (l.getD i default)).getD zfe).body)), (10, iv k)]) (usesF c.features ((findF c.features (l.getD i default)).getD zfe).body).length rfl ⟨_, _, by repeat' first | exact .row | exact .refl _ | exact .nil | refine .cons ?_ ?_ | refine .tup ?_ | refine .agg ?_ | exact .sl | exact .own _ | exact .tag, by repeat' first | exact .refl _ | refine .same ?_ | refine .cons ?_, 0, Nat.zero_le _, rfl, rfl, rfl⟩ ?_
    rintro m2 _ _ ⟨k, hk, hm2, rfl, rfl⟩
    have hMk := hMk0 k
    repeat' (first | exact .nil | refine .k0 ?_ | refine .k1 ?_ | refine .k2 ?_ | refine .k3 ?_ | refine .k4 ?_ | refine .k5 ?_ | refine .k6 ?_ | refine .k7 ?_ | refine .k8 ?_ | refine .k9 ?_ | (refine .cd ?_ ?_ <;> first | with_reducible exact tF | with_reducible exact fT | (intro hc; first | exact kf hc (by assumption) | exact kt hc (by assumption) | skip)) | refine .r1 ?_ ?_ | (refine .l1 ?_; intro b) | (refine .m1 ?_ ?_; intro b) | (refine .m2 ?_ ?_; intro hlen) | (refine .m3 ?_ ?_; intro hlen) | refine .t1 ?_ ?_ ?_ | refine .t2 ?_ ?_ ?_ | refine .t3 ?_ ?_ ?_ | refine .t4 ?_ ?_ ?_ | (refine .l2 ?_; intro b) | refine .u1 ?_ ?_ ?_ (fun b u c => ?_) | refine .u2 ?_ ?_ ?_ (fun b u c => ?_) | refine .u4 ?_ ?_ (fun b u c => ?_) | refine .u5 ?_ ?_ ?_ | refine .u3 ?_ ?_ (fun hr0 => ?_) (fun hr1 b u c => ?_) | refine .an rfl (by intro hob; first | exact hS | exact featC_ok c _ | exact hM (by first | omega | (simp only [BL] at *; omega)) | (refine (hMk (by first | omega | (simp only [BL] at *; omega)) (by first | assumption | (simp only [BL] at *; assumption) | (simp_all; done))).wk ?_; (repeat' first | exact .refl _ | exact .nil | exact .own _ | refine .cons ?_ ?_); done) | exact hO | exact hY | exact hNm | exact hA | exact hB | exact hJ2 | (refine hI2.wk ?_; (repeat' first | exact .refl _ | exact .nil | exact .own _ | refine .cons ?_ ?_); done) | exact hK | exact hL | exact hD | exact example_ok) ?_ ?_ | refine .t5 ?_ ?_ ?_ | refine .t6 ?_ ?_ ?_ | refine .t7 ?_ ?_ ?_ | refine .r2 ?_ ?_ | refine .r3 ?_ ?_ | refine .r4 ?_ ?_ | refine .r5 ?_ ?_ | (refine .l3 ?_; intro b) | refine .r6 ?_ ?_ | refine .r7 ?_ ?_ | refine .r8 ?_ ?_ | refine .r9 ?_ ?_ | refine .ra ?_ ?_ | (show List.all _ _ = true; rfl) | (show (_ : Nat) = _; rfl))
    try any_goals ((intro hob; first | (simp_all; done) | (simp only [BL] at *; first | (simp_all; done) | omega)))
    all_goals (try simp only [BL] at *)
    · exfalso; exact absurd hc.2 (by decide)
    · refine ⟨m2 - 1, by omega, _, _, by repeat' first | exact .row | exact .refl _ | exact .nil | refine .cons ?_ ?_ | refine .tup ?_ | refine .agg ?_ | exact .sl | exact .own _ | exact .tag, by repeat' first | exact .refl _ | refine .same ?_ | refine .cons ?_, k + 1, by omega, by omega, rfl, ?_⟩
      first | rw [up1 (n := (usesF c.features ((findF c.features (l.getD 0 default)).getD zfe).body).length) (by omega) (by assumption)] | rw [up1 (n := (usesF c.features ((findF c.features (l.getD i default)).getD zfe).body).length) (by omega) (by assumption)]
    · show 1 ≤ 1000000; decide
    · simp only [List.length_map, List.length_take, List.length_cons, List.length_nil]; omega
    first
      | exact ⟨m - 1, by omega, _, _, by repeat' first | exact .row | exact .refl _ | exact .nil | refine .cons ?_ ?_ | refine .tup ?_ | refine .agg ?_ | exact .sl | exact .own _ | exact .tag, by repeat' first | exact .refl _ | refine .same ?_ | refine .cons ?_, 1, _, [(95, b, .tail u c)], by omega, by omega, .inr ⟨by omega, b, u, c, by rw [show (l.take 1).map strRow = [[sv (l.getD 0 default)]] by rw [take1 hl0]; rfl], rfl⟩, rfl, by rw [up1 (n := 50) (i := 0) (by omega) (by decide)]⟩
      | exact ⟨m - 1, by omega, _, _, by repeat' first | exact .row | exact .refl _ | exact .nil | refine .cons ?_ ?_ | refine .tup ?_ | refine .agg ?_ | exact .sl | exact .own _ | exact .tag, by repeat' first | exact .refl _ | refine .same ?_ | refine .cons ?_, i + 1, _, [(95, b, .tail u c)], by omega, by omega, .inr ⟨by omega, b, u, c, by rw [show (l.take (i + 1)).map strRow = (l.take i).map strRow ++ [[sv (l.getD i default)]] by rw [take1 hl0, List.map_append]; rfl], rfl⟩, rfl, by rw [up1 (n := 50) (by omega) (by decide)]⟩
end Go.Proofs.YtekngilbecjkhaaGreatDoor
