
/- The reference's tables and features; modules; the law PrinterItems. -/
import Derived.Test.YtklncofkcfjkeaaGreatDoorPu
set_option linter.unusedSimpArgs false
set_option linter.unusedVariables false
set_option maxRecDepth 100000
set_option maxHeartbeats 4000000
namespace Go.Proofs.YtklncofkcfjkeaaGreatDoor
open Go.Sx Go.Proofs
theorem mem_take_getD {α : Type} [Inhabited α] {l : List α} {k i : Nat} (h : k < i) (hi : i ≤ l.length) : l.getD k default ∈ l.take i := by
  have hk : k < l.length := by omega
  rw [getD_eq hk]
  exact List.mem_take_iff_getElem.2 ⟨k, by omega, rfl⟩
theorem take_none {α : Type} [Inhabited α] {p : α → Prop} {l : List α} {i : Nat} (hi : i ≤ l.length) (h : ∀ j, j < i → ¬ p (l.getD j default)) : ¬ ∃ x ∈ l.take i, p x := by
  rintro ⟨x, hx, hp⟩
  obtain ⟨k, hk, rfl⟩ := List.mem_take_iff_getElem.1 hx
  exact h k (by omega) (by rw [getD_eq (by omega)]; exact hp)
theorem tableR_ok (t : Tab) : Pure Tryz.prog 45 [.agg t.cells] (iv (tabErr t)) := by
  refine Pure.runk (fun _ => 0) Tryz.func45 comp45 era45 (Nat.le_of_ble_eq_true rfl) fun σ => ?_
  repeat' (first | exact .nil | refine .k0 ?_ | refine .k1 ?_ | refine .k2 ?_ | refine .k3 ?_ | refine .k4 ?_ | refine .k5 ?_ | refine .k6 ?_ | refine .k7 ?_ | refine .k8 ?_ | refine .k9 ?_ | (refine .cd ?_ ?_ <;> first | with_reducible exact tF | with_reducible exact fT | (intro hc; first | exact kf hc (by assumption) | exact kt hc (by assumption) | skip)) | refine .r1 ?_ ?_ | (refine .l1 ?_; intro b) | (refine .m1 ?_ ?_; intro b) | (refine .m2 ?_ ?_; intro hlen) | (refine .m3 ?_ ?_; intro hlen) | refine .t1 ?_ ?_ ?_ | refine .t2 ?_ ?_ ?_ | refine .t3 ?_ ?_ ?_ | refine .t4 ?_ ?_ ?_ | (refine .l2 ?_; intro b) | refine .u1 ?_ ?_ ?_ (fun b u c => ?_) | refine .u2 ?_ ?_ ?_ (fun b u c => ?_) | refine .an rfl (by intro hob; first | exact nameR_ok _ | exact typeR_ok (t.fields.getD i default).type) ?_ ?_ | refine .t5 ?_ ?_ ?_ | refine .t6 ?_ ?_ ?_ | refine .t7 ?_ ?_ ?_ | refine .r2 ?_ ?_ | refine .r3 ?_ ?_ | refine .r4 ?_ ?_ | refine .r5 ?_ ?_ | (refine .l3 ?_; intro b) | refine .r6 ?_ ?_ | refine .r7 ?_ ?_ | refine .r8 ?_ ?_ | refine .r9 ?_ ?_ | refine .ra ?_ ?_ | (show List.all _ _ = true; rfl) | (show (_ : Nat) = _; rfl))
  try any_goals ((intro hob; first | (simp_all; done) | (simp only [BL] at *; first | (simp_all; done) | omega)))
  all_goals (try simp only [BL] at *)
  · refine Sx.Fin.intro (by repeat' first | exact .refl _ | refine .same ?_ | refine .cons ?_) (bi ?_)
    unfold tabErr; rw [if_pos (by grind)]
  · refine Sx.Fin.intro (by repeat' first | exact .refl _ | refine .same ?_ | refine .cons ?_) (bi ?_)
    unfold tabErr; rw [if_neg (by grind), if_pos (by omega)]
  have hu : tabErr t = fldErrL [] t.fields := by unfold tabErr; rw [if_neg (by grind), if_neg (by omega)]
  refine WK_loop (fun n rg σ' => ∃ (i : Nat), i ≤ t.fields.length ∧ n = t.fields.length - i ∧ tabErr t = fldErrL (t.fields.take i) (t.fields.drop i) ∧ σ' = (1, b, Blk.cells t.cells) :: σ ∧ rg = [(1, .lp 1 b 0), (3, iv i)]) t.fields.length rfl ⟨_, _, by repeat' first | exact .row | exact .refl _ | exact .nil | refine .cons ?_ ?_ | refine .tup ?_ | refine .agg ?_ | exact .sl | exact .own _ | exact .tag, by repeat' first | exact .refl _ | refine .same ?_ | refine .cons ?_, 0, Nat.zero_le _, rfl, hu, rfl, rfl⟩ ?_
  rintro n _ _ ⟨i, hi, hn, hp, rfl, rfl⟩
  repeat' (first | exact .nil | refine .k0 ?_ | refine .k1 ?_ | refine .k2 ?_ | refine .k3 ?_ | refine .k4 ?_ | refine .k5 ?_ | refine .k6 ?_ | refine .k7 ?_ | refine .k8 ?_ | refine .k9 ?_ | (refine .cd ?_ ?_ <;> first | with_reducible exact tF | with_reducible exact fT | (intro hc; first | exact kf hc (by assumption) | exact kt hc (by assumption) | skip)) | refine .r1 ?_ ?_ | (refine .l1 ?_; intro b) | (refine .m1 ?_ ?_; intro b) | (refine .m2 ?_ ?_; intro hlen) | (refine .m3 ?_ ?_; intro hlen) | refine .t1 ?_ ?_ ?_ | refine .t2 ?_ ?_ ?_ | refine .t3 ?_ ?_ ?_ | refine .t4 ?_ ?_ ?_ | (refine .l2 ?_; intro b) | refine .u1 ?_ ?_ ?_ (fun b u c => ?_) | refine .u2 ?_ ?_ ?_ (fun b u c => ?_) | refine .an rfl (by intro hob; first | exact nameR_ok _ | exact typeR_ok (t.fields.getD i default).type) ?_ ?_ | refine .t5 ?_ ?_ ?_ | refine .t6 ?_ ?_ ?_ | refine .t7 ?_ ?_ ?_ | refine .r2 ?_ ?_ | refine .r3 ?_ ?_ | refine .r4 ?_ ?_ | refine .r5 ?_ ?_ | (refine .l3 ?_; intro b) | refine .r6 ?_ ?_ | refine .r7 ?_ ?_ | refine .r8 ?_ ?_ | refine .r9 ?_ ?_ | refine .ra ?_ ?_ | (show List.all _ _ = true; rfl) | (show (_ : Nat) = _; rfl))
  try any_goals ((intro hob; first | (simp_all; done) | (simp only [BL] at *; first | (simp_all; done) | omega)))
  all_goals (try simp only [BL] at *)
  · rw [hp, fldErrL_end (e := 3) (by omega) (if_pos hc) (by decide)]
    (refine Sx.Fin.wk (by repeat' first | exact .refl _ | refine .same ?_ | refine .cons ?_) ?_; repeat' first | exact .refl _ | exact .nil | refine .cons ?_ ?_ | refine .tup ?_ | refine .agg ?_ | exact .sl | exact .own _)
  rotate_left
  · rw [hp, List.drop_eq_nil_of_le (by omega), fldErrL]
    (refine Sx.Fin.wk (by repeat' first | exact .refl _ | refine .same ?_ | refine .cons ?_) ?_; repeat' first | exact .refl _ | exact .nil | refine .cons ?_ ?_ | refine .tup ?_ | refine .agg ?_ | exact .sl | exact .own _)
  refine WK_loop (fun n rg σ' => ∃ (k : Nat), k ≤ i ∧ n = i - k ∧ (∀ j, j < k → ¬ (t.fields.getD j default).name = (t.fields.getD i default).name) ∧ σ' = (1, b, Blk.cells t.cells) :: σ ∧ rg = [(1, .lp 1 b 0), (3, iv i), (4, iv k)]) i rfl ⟨_, _, by repeat' first | exact .row | exact .refl _ | exact .nil | refine .cons ?_ ?_ | refine .tup ?_ | refine .agg ?_ | exact .sl | exact .own _ | exact .tag, by repeat' first | exact .refl _ | refine .same ?_ | refine .cons ?_, 0, Nat.zero_le _, rfl, fun j hj => absurd hj (by omega), rfl, rfl⟩ ?_
  rintro n _ _ ⟨k, hk, hn2, hq, rfl, rfl⟩
  repeat' (first | exact .nil | refine .k0 ?_ | refine .k1 ?_ | refine .k2 ?_ | refine .k3 ?_ | refine .k4 ?_ | refine .k5 ?_ | refine .k6 ?_ | refine .k7 ?_ | refine .k8 ?_ | refine .k9 ?_ | (refine .cd ?_ ?_ <;> first | with_reducible exact tF | with_reducible exact fT | (intro hc; first | exact kf hc (by assumption) | exact kt hc (by assumption) | skip)) | refine .r1 ?_ ?_ | (refine .l1 ?_; intro b) | (refine .m1 ?_ ?_; intro b) | (refine .m2 ?_ ?_; intro hlen) | (refine .m3 ?_ ?_; intro hlen) | refine .t1 ?_ ?_ ?_ | refine .t2 ?_ ?_ ?_ | refine .t3 ?_ ?_ ?_ | refine .t4 ?_ ?_ ?_ | (refine .l2 ?_; intro b) | refine .u1 ?_ ?_ ?_ (fun b u c => ?_) | refine .u2 ?_ ?_ ?_ (fun b u c => ?_) | refine .an rfl (by intro hob; first | exact nameR_ok _ | exact typeR_ok (t.fields.getD i default).type) ?_ ?_ | refine .t5 ?_ ?_ ?_ | refine .t6 ?_ ?_ ?_ | refine .t7 ?_ ?_ ?_ | refine .r2 ?_ ?_ | refine .r3 ?_ ?_ | refine .r4 ?_ ?_ | refine .r5 ?_ ?_ | (refine .l3 ?_; intro b) | refine .r6 ?_ ?_ | refine .r7 ?_ ?_ | refine .r8 ?_ ?_ | refine .r9 ?_ ?_ | refine .ra ?_ ?_ | (show List.all _ _ = true; rfl) | (show (_ : Nat) = _; rfl))
  try any_goals ((intro hob; first | (simp_all; done) | (simp only [BL] at *; first | (simp_all; done) | omega)))
  all_goals (try simp only [BL] at *)
  · have hN : ∃ x ∈ t.fields.take i, x.name = (t.fields.getD i default).name := ⟨_, mem_take_getD (by omega) hi, hc⟩
    rw [hp, fldErrL_end (e := 121) (by omega) (by unfold fldErr; rw [if_neg (not_not_intro ‹_›), if_pos hN]) (by decide)]
    (refine Sx.Fin.wk (by repeat' first | exact .refl _ | refine .same ?_ | refine .cons ?_) ?_; repeat' first | exact .refl _ | exact .nil | refine .cons ?_ ?_ | refine .tup ?_ | refine .agg ?_ | exact .sl | exact .own _)
  · refine ⟨i - (k + 1), by omega, _, _, by repeat' first | exact .row | exact .refl _ | exact .nil | refine .cons ?_ ?_ | refine .tup ?_ | refine .agg ?_ | exact .sl | exact .own _ | exact .tag, by repeat' first | exact .refl _ | refine .same ?_ | refine .cons ?_, k + 1, by omega, rfl, cons_lt hq hc, rfl, by rw [up1 (n := t.fields.length) (i := k) (by omega) (by assumption)]⟩
  · have hN := take_none (p := fun x : Fld => x.name = (t.fields.getD i default).name) hi (fun j hj => hq j (by omega))
    rw [hp, fldErrL_end (by omega) (by unfold fldErr; rw [if_neg (not_not_intro ‹_›), if_neg hN]) hc]
    (refine Sx.Fin.wk (by repeat' first | exact .refl _ | refine .same ?_ | refine .cons ?_) ?_; repeat' first | exact .refl _ | exact .nil | refine .cons ?_ ?_ | refine .tup ?_ | refine .agg ?_ | exact .sl | exact .own _)
  · have hN := take_none (p := fun x : Fld => x.name = (t.fields.getD i default).name) hi (fun j hj => hq j (by omega))
    refine ⟨t.fields.length - (i + 1), by omega, _, _, by repeat' first | exact .row | exact .refl _ | exact .nil | refine .cons ?_ ?_ | refine .tup ?_ | refine .agg ?_ | exact .sl | exact .own _ | exact .tag, by repeat' first | exact .refl _ | refine .same ?_ | refine .cons ?_, i + 1, by omega, rfl, ?_, rfl, by rw [up1 (n := t.fields.length) (by omega) (by assumption)]⟩
    rw [hp, fldErrL_step (by omega) (by unfold fldErr; rw [if_neg (not_not_intro ‹_›), if_neg hN]; exact hc)]
theorem joinS_snoc (l : List Str) (h : l ≠ []) (a sep : Str) : joinS (l ++ [a]) sep = joinS l sep ++ (sep ++ a) := by
  refine str_ext ?_
  rw [str_app, str_app]
  show Lib.join ((l ++ [a]).map (·.data.toList)) sep.data.toList = Lib.join (l.map (·.data.toList)) sep.data.toList ++ _
  rw [List.map_append]
  exact inter_snoc _ _ _ fun e => h (List.map_eq_nil_iff.1 e)
theorem joinS_one (a sep : Str) : joinS [a] sep = a := str_ext (by show Lib.join [a.data.toList] sep.data.toList = _; simp [Lib.join, List.intercalate])
def tabAcc (t : Tab) (i : Nat) : Str := ⟨#[116, 97, 98, 108, 101, 32]⟩ ++ (t.name ++ (⟨#[32, 111, 102, 32]⟩ ++ (t.entity ++ (⟨#[32, 123]⟩ ++ joinS ((t.fields.take i).map fldS) ⟨#[44]⟩))))
theorem tabAcc_0 (t : Tab) : ⟨#[116, 97, 98, 108, 101, 32]⟩ ++ t.name ++ ⟨#[32, 111, 102, 32]⟩ ++ t.entity ++ ⟨#[32, 123]⟩ = tabAcc t 0 := by
  unfold tabAcc
  rw [List.take_zero, List.map_nil, show joinS [] (⟨#[44]⟩ : Str) = ⟨#[]⟩ from rfl]
  simp only [app_assoc, app_nil]
theorem tabAcc_1 {t : Tab} (h : 0 < t.fields.length) : tabAcc t 0 ++ ⟨#[32]⟩ ++ (t.fields.getD 0 default).name ++ ⟨#[58, 32]⟩ ++ tyS (t.fields.getD 0 default).type = tabAcc t (0 + 1) := by
  unfold tabAcc
  rw [take_snoc h, List.take_zero, List.map_nil, show joinS [] (⟨#[44]⟩ : Str) = ⟨#[]⟩ from rfl]
  simp only [List.nil_append, List.map_cons, List.map_nil, joinS_one, fldS, app_assoc, app_nil']
theorem tabAcc_s {t : Tab} {i : Nat} (h : i < t.fields.length) (h0 : 0 < i) : tabAcc t i ++ ⟨#[44]⟩ ++ ⟨#[32]⟩ ++ (t.fields.getD i default).name ++ ⟨#[58, 32]⟩ ++ tyS (t.fields.getD i default).type = tabAcc t (i + 1) := by
  unfold tabAcc
  rw [take_snoc h, List.map_append, List.map_cons, List.map_nil, joinS_snoc _ (fun e => by
    have := congrArg List.length e
    rw [List.length_map, List.length_take, List.length_nil] at this
    omega)]
  simp only [fldS, app_assoc]
theorem tabAcc_size {t : Tab} (h : TOK t) (i : Nat) : (tabAcc t i).size ≤ 4000 := by
  have h1 := join_len ((t.fields.take i).map fldS) ⟨#[44]⟩
  have h2 := lenS_map fldS 250 (l := t.fields.take i) fun f hf => fldS_size (h.f f (List.mem_of_mem_take hf))
  have h3 : (⟨#[44]⟩ : Str).size = 1 := rfl
  rw [List.length_map, h3] at h1
  have h4 : (t.fields.take i).length ≤ 8 := by rw [List.length_take]; have := h.l; omega
  have h5 : (joinS ((t.fields.take i).map fldS) ⟨#[44]⟩).size = (Lib.join (((t.fields.take i).map fldS).map (·.data.toList)) (⟨#[44]⟩ : Str).data.toList).length := by show Array.size _ = _; rw [List.size_toArray]
  have h6 := h.n
  have h7 := h.e
  unfold tabAcc
  (first | omega | (simp only [List.length_cons, List.length_nil, List.length_append, List.length_map, List.length_take, app_size, szl, str_len, List.size_toArray]; omega))
theorem digI_ok (n : Int) (h : 0 ≤ n ∧ n ≤ 1099511627776) : Pure Tryz.prog 46 [iv n] (sv (intS n)) := by
  have := digits05_ok n.toNat (by omega)
  rwa [show ((n.toNat : Nat) : Int) = n by omega] at this
theorem table11_ok (t : Tab) : Pure Tryz.prog 17 [.agg t.cells] (.tup [sv (tableS t), iv (tabErr t)]) := by
  unfold tableS
  refine Pure.runk (fun _ => 0) Tryz.func17 comp17 era17 (Nat.le_of_ble_eq_true rfl) fun σ => ?_
  repeat' (first | exact .nil | refine .k0 ?_ | refine .k1 ?_ | refine .k2 ?_ | refine .k3 ?_ | refine .k4 ?_ | refine .k5 ?_ | refine .k6 ?_ | refine .k7 ?_ | refine .k8 ?_ | refine .k9 ?_ | (refine .cd ?_ ?_ <;> first | with_reducible exact tF | with_reducible exact fT | (intro hc; first | exact kf hc (by assumption) | exact kt hc (by assumption) | skip)) | refine .r1 ?_ ?_ | (refine .l1 ?_; intro b) | (refine .m1 ?_ ?_; intro b) | (refine .m2 ?_ ?_; intro hlen) | (refine .m3 ?_ ?_; intro hlen) | refine .t1 ?_ ?_ ?_ | refine .t2 ?_ ?_ ?_ | refine .t3 ?_ ?_ ?_ | refine .t4 ?_ ?_ ?_ | (refine .l2 ?_; intro b) | refine .u1 ?_ ?_ ?_ (fun b u c => ?_) | refine .u2 ?_ ?_ ?_ (fun b u c => ?_) | refine .an rfl (by intro hob; first | exact tableR_ok t | exact kindR_ok (t.fields.getD i default).type (hf (by first | omega | (simp only [BL] at *; omega))).1 (hf (by first | omega | (simp only [BL] at *; omega))).2.1 (hf (by first | omega | (simp only [BL] at *; omega))).2.2.1 | exact digI_ok t.keep (by first | omega | (simp only [BL] at *; omega))) ?_ ?_ | refine .t5 ?_ ?_ ?_ | refine .t6 ?_ ?_ ?_ | refine .t7 ?_ ?_ ?_ | refine .r2 ?_ ?_ | refine .r3 ?_ ?_ | refine .r4 ?_ ?_ | refine .r5 ?_ ?_ | (refine .l3 ?_; intro b) | refine .r6 ?_ ?_ | refine .r7 ?_ ?_ | refine .r8 ?_ ?_ | refine .r9 ?_ ?_ | refine .ra ?_ ?_ | (show List.all _ _ = true; rfl) | (show (_ : Nat) = _; rfl))
  try any_goals ((intro hob; first | (simp_all; done) | (simp only [BL] at *; first | (simp_all; done) | omega)))
  all_goals (try simp only [BL] at *)
  · refine Sx.Fin.intro (by repeat' first | exact .refl _ | refine .same ?_ | refine .cons ?_) (bse ?_ rfl)
    exact (if_neg hc).symm
  any_goals (have hT := TOK.of (t := t) (by assumption); have hz1 := hT.n; have hz2 := hT.e; (first | omega | (simp only [List.length_cons, List.length_nil, List.length_append, List.length_map, List.length_take, app_size, szl, str_len, List.size_toArray]; omega)))
  have hT := TOK.of hc
  have hTk := hT.k
  have hk := @intS_size t.keep (by omega)
  rw [if_pos hc, hc]
  refine WK_loop (fun n rg σ' => ∃ i : Nat, i ≤ t.fields.length ∧ n = t.fields.length - i ∧ σ' = (1, b, Blk.cells t.cells) :: σ ∧ rg = [(1, .lp 1 b 0), (5, sv (tabAcc t i)), (6, iv i)]) t.fields.length rfl ⟨_, _, by repeat' first | exact .row | exact .refl _ | exact .nil | refine .cons ?_ ?_ | refine .tup ?_ | refine .agg ?_ | exact .sl | exact .own _ | exact .tag, by repeat' first | exact .refl _ | refine .same ?_ | refine .cons ?_, 0, Nat.zero_le _, rfl, rfl, by rw [tabAcc_0]; rfl⟩ ?_
  rintro n _ _ ⟨i, hi, hn, rfl, rfl⟩
  have hf := fun h => tab_fac (i := i) hT h
  have hz1 := fun h => (hf h).2.2.2.1
  have hz2 := fun h => (hf h).2.2.2.2
  have hz := tabAcc_size hT i
  repeat' (first | exact .nil | refine .k0 ?_ | refine .k1 ?_ | refine .k2 ?_ | refine .k3 ?_ | refine .k4 ?_ | refine .k5 ?_ | refine .k6 ?_ | refine .k7 ?_ | refine .k8 ?_ | refine .k9 ?_ | (refine .cd ?_ ?_ <;> first | with_reducible exact tF | with_reducible exact fT | (intro hc; first | exact kf hc (by assumption) | exact kt hc (by assumption) | skip)) | refine .r1 ?_ ?_ | (refine .l1 ?_; intro b) | (refine .m1 ?_ ?_; intro b) | (refine .m2 ?_ ?_; intro hlen) | (refine .m3 ?_ ?_; intro hlen) | refine .t1 ?_ ?_ ?_ | refine .t2 ?_ ?_ ?_ | refine .t3 ?_ ?_ ?_ | refine .t4 ?_ ?_ ?_ | (refine .l2 ?_; intro b) | refine .u1 ?_ ?_ ?_ (fun b u c => ?_) | refine .u2 ?_ ?_ ?_ (fun b u c => ?_) | refine .an rfl (by intro hob; first | exact tableR_ok t | exact kindR_ok (t.fields.getD i default).type (hf (by first | omega | (simp only [BL] at *; omega))).1 (hf (by first | omega | (simp only [BL] at *; omega))).2.1 (hf (by first | omega | (simp only [BL] at *; omega))).2.2.1 | exact digI_ok t.keep (by first | omega | (simp only [BL] at *; omega))) ?_ ?_ | refine .t5 ?_ ?_ ?_ | refine .t6 ?_ ?_ ?_ | refine .t7 ?_ ?_ ?_ | refine .r2 ?_ ?_ | refine .r3 ?_ ?_ | refine .r4 ?_ ?_ | refine .r5 ?_ ?_ | (refine .l3 ?_; intro b) | refine .r6 ?_ ?_ | refine .r7 ?_ ?_ | refine .r8 ?_ ?_ | refine .r9 ?_ ?_ | refine .ra ?_ ?_ | (show List.all _ _ = true; rfl) | (show (_ : Nat) = _; rfl))
  try any_goals ((intro hob; first | (simp_all; done) | (simp only [BL] at *; first | (simp_all; done) | omega)))
  all_goals (try simp only [BL] at *)
  any_goals (first | omega | (simp only [List.length_cons, List.length_nil, List.length_append, List.length_map, List.length_take, app_size, szl, str_len, List.size_toArray]; omega))
  · refine ⟨t.fields.length - (i + 1), by omega, _, _, by repeat' first | exact .row | exact .refl _ | exact .nil | refine .cons ?_ ?_ | refine .tup ?_ | refine .agg ?_ | exact .sl | exact .own _ | exact .tag, by repeat' first | exact .refl _ | refine .same ?_ | refine .cons ?_, i + 1, by omega, rfl, rfl, ?_⟩
    rw [tabAcc_s (by omega) (by omega), up1 (n := t.fields.length) (by omega) (by assumption)]
  · obtain rfl : i = 0 := by omega
    refine ⟨t.fields.length - (0 + 1), by omega, _, _, by repeat' first | exact .row | exact .refl _ | exact .nil | refine .cons ?_ ?_ | refine .tup ?_ | refine .agg ?_ | exact .sl | exact .own _ | exact .tag, by repeat' first | exact .refl _ | refine .same ?_ | refine .cons ?_, 0 + 1, by omega, rfl, rfl, ?_⟩
    rw [tabAcc_1 (by omega), up1 (n := t.fields.length) (by omega) (by assumption)]
  · refine Sx.Fin.intro (by repeat' first | exact .refl _ | refine .same ?_ | refine .cons ?_) (bse ?_ rfl)
    unfold tabS tabAcc
    rw [if_neg hc, List.take_of_length_le (by omega)]
    simp only [app_assoc]
  · refine Sx.Fin.intro (by repeat' first | exact .refl _ | refine .same ?_ | refine .cons ?_) (bse ?_ rfl)
    unfold tabS tabAcc
    rw [if_pos hc, List.take_of_length_le (by omega)]
    simp only [app_nil', app_assoc]
theorem exprR_lay (x : Ex) (hs : x.size ≤ 100) : Pure Tryz.prog 12 [.agg x.lay] (.tup [sv (exprS x), iv (shape x)]) := by have := exprR_ok x hs; rwa [Ex.row_eq x] at this
theorem feature11_ok (f : Fea) (hs : f.body.size ≤ 100) : Pure Tryz.prog 19 [.agg f.cells] (.tup [sv (feaS f), iv (feaErr f)]) := by
  rw [Fea.cells_row]
  have hz1 := typeS_size f.type
  have hz2 := exprS_size f.body hs
  refine Pure.runk (fun _ => 0) Tryz.func19 comp19 era19 (Nat.le_of_ble_eq_true rfl) fun σ => ?_
  repeat' (first | exact .nil | refine .k0 ?_ | refine .k1 ?_ | refine .k2 ?_ | refine .k3 ?_ | refine .k4 ?_ | refine .k5 ?_ | refine .k6 ?_ | refine .k7 ?_ | refine .k8 ?_ | refine .k9 ?_ | (refine .cd ?_ ?_ <;> first | with_reducible exact tF | with_reducible exact fT | (intro hc; first | exact kf hc (by assumption) | exact kt hc (by assumption) | skip)) | refine .r1 ?_ ?_ | (refine .l1 ?_; intro b) | (refine .m1 ?_ ?_; intro b) | (refine .m2 ?_ ?_; intro hlen) | (refine .m3 ?_ ?_; intro hlen) | refine .t1 ?_ ?_ ?_ | refine .t2 ?_ ?_ ?_ | refine .t3 ?_ ?_ ?_ | refine .t4 ?_ ?_ ?_ | (refine .l2 ?_; intro b) | refine .u1 ?_ ?_ ?_ (fun b u c => ?_) | refine .u2 ?_ ?_ ?_ (fun b u c => ?_) | refine .an rfl (by intro hob; first | exact nameR_ok _ | exact typeP11_ok f.type | exact exprR_lay f.body hs) ?_ ?_ | refine .t5 ?_ ?_ ?_ | refine .t6 ?_ ?_ ?_ | refine .t7 ?_ ?_ ?_ | refine .r2 ?_ ?_ | refine .r3 ?_ ?_ | refine .r4 ?_ ?_ | refine .r5 ?_ ?_ | (refine .l3 ?_; intro b) | refine .r6 ?_ ?_ | refine .r7 ?_ ?_ | refine .r8 ?_ ?_ | refine .r9 ?_ ?_ | refine .ra ?_ ?_ | (show List.all _ _ = true; rfl) | (show (_ : Nat) = _; rfl))
  try any_goals ((intro hob; first | (simp_all; done) | (simp only [BL] at *; first | (simp_all; done) | omega)))
  all_goals (try simp only [BL] at *)
  any_goals (have h3 : Name f.name ∧ Name f.entity := by grind
             have h4 := Name.size h3.1
             have h5 := Name.size h3.2
             (first | omega | (simp only [List.length_cons, List.length_nil, List.length_append, List.length_map, List.length_take, app_size, szl, str_len, List.size_toArray]; omega)))
  · rw [fea_3 hc, feaS_no (by rw [fea_3 hc]; decide)]
    (refine Sx.Fin.wk (by repeat' first | exact .refl _ | refine .same ?_ | refine .cons ?_) ?_; repeat' first | exact .refl _ | exact .nil | refine .cons ?_ ?_ | refine .tup ?_ | refine .agg ?_ | exact .sl | exact .own _)
  · have h := fea_t (f := f) (by grind) hc
    rw [h, feaS_no (by rw [h]; exact hc)]
    (refine Sx.Fin.wk (by repeat' first | exact .refl _ | refine .same ?_ | refine .cons ?_) ?_; repeat' first | exact .refl _ | exact .nil | refine .cons ?_ ?_ | refine .tup ?_ | refine .agg ?_ | exact .sl | exact .own _)
  · have h := fea_b (f := f) (by grind) (by assumption)
    rw [h, feaS_no (by rw [h]; exact hc)]
    (refine Sx.Fin.wk (by repeat' first | exact .refl _ | refine .same ?_ | refine .cons ?_) ?_; repeat' first | exact .refl _ | exact .nil | refine .cons ?_ ?_ | refine .tup ?_ | refine .agg ?_ | exact .sl | exact .own _)
  · have h := fea_b (f := f) (by grind) (by assumption)
    refine Sx.Fin.intro (by repeat' first | exact .refl _ | refine .same ?_ | refine .cons ?_) (bse ?_ ?_)
    · rw [feaT_ref (by assumption) hc]; exact (if_pos (h.trans hc)).symm
    · rw [h, hc]
/-- A module's lines, each with its error. -/
def itemsT (m : Mdl) : List (Str × Int) := m.tables.map fun t => (tableS t, tabErr t)
def itemsF (m : Mdl) : List (Str × Int) := m.features.map fun f => (feaS f, feaErr f)
def itErr : List (Str × Int) → Int
  | [] => 0
  | x :: l => if x.2 = 0 then itErr l else x.2
def itCat : List (Str × Int) → Str
  | [] => ⟨#[]⟩
  | x :: l => x.1 ++ (⟨#[10]⟩ ++ itCat l)
def modErr (m : Mdl) : Int :=
  if itErr (itemsT m ++ itemsF m) ≠ 0 then itErr (itemsT m ++ itemsF m) else if 16384 < (itCat (itemsT m ++ itemsF m)).size then 2 else 0
def modS (m : Mdl) : Str := if modErr m = 0 then itCat (itemsT m ++ itemsF m) else ⟨#[]⟩
theorem itErr_app : ∀ (l r : List (Str × Int)), itErr (l ++ r) = if itErr l = 0 then itErr r else itErr l
  | [], r => by simp [itErr]
  | x :: l, r => by
    rw [List.cons_append, itErr, itErr, itErr_app l r]
    by_cases h : x.2 = 0
    · rw [if_pos h, if_pos h]
    · rw [if_neg h, if_neg h, if_neg h]
theorem itCat_app : ∀ (l r : List (Str × Int)), itCat (l ++ r) = itCat l ++ itCat r
  | [], r => (app_nil' _).symm
  | x :: l, r => by rw [List.cons_append, itCat, itCat, itCat_app l r]; simp only [app_assoc]
theorem itCat_snoc (l : List (Str × Int)) (x : Str × Int) : itCat (l ++ [x]) = itCat l ++ x.1 ++ ⟨#[10]⟩ := by
  rw [itCat_app, itCat, itCat]; simp only [app_assoc, app_nil]
theorem take_map {α β : Type} [Inhabited α] (g : α → β) {l : List α} {i : Nat} (h : i < l.length) : (l.map g).take (i + 1) = (l.map g).take i ++ [g (l.getD i default)] := by
  rw [← List.map_take, take_snoc h, List.map_append, List.map_take]; rfl
theorem itErr_end {l : List (Str × Int)} {i : Nat} {x : Str × Int} (h0 : itErr (l.take i) = 0) (h : l.take (i + 1) = l.take i ++ [x]) (hx : x.2 ≠ 0) : itErr l = x.2 := by
  rw [← List.take_append_drop (i + 1) l, itErr_app, h, itErr_app, if_pos h0, itErr, if_neg hx, if_neg hx]
theorem itErr_step {l : List (Str × Int)} {i : Nat} {x : Str × Int} (h0 : itErr (l.take i) = 0) (h : l.take (i + 1) = l.take i ++ [x]) (hx : x.2 = 0) : itErr (l.take (i + 1)) = 0 := by
  rw [h, itErr_app, if_pos h0, itErr, if_pos hx]; rfl
theorem itCat_size {c : Nat} : ∀ {l : List (Str × Int)}, (∀ x ∈ l, x.1.size ≤ c) → (itCat l).size ≤ l.length * (c + 1)
  | [], _ => Nat.zero_le _
  | x :: l, h => by
    have h1 := h x (by simp)
    have h2 := itCat_size (l := l) fun y hy => h y (by simp [hy])
    simp only [itCat, List.length_cons, Nat.add_mul, Nat.one_mul] at *
    (first | omega | (simp only [List.length_cons, List.length_nil, List.length_append, List.length_map, List.length_take, app_size, szl, str_len, List.size_toArray]; omega))
theorem tableS_size (t : Tab) : (tableS t).size ≤ 60000 := by
  unfold tableS; split
  · rename_i h
    have hT := TOK.of h
    have h1 := hT.n
    have h2 := hT.e
    have h3 := tab_size hT
    have h4 := @intS_size t.keep (by have := hT.k; omega)
    unfold tabS
    split
    all_goals (first | omega | (simp only [List.length_cons, List.length_nil, List.length_append, List.length_map, List.length_take, app_size, szl, str_len, List.size_toArray]; omega))
  · decide
theorem feaS_size {f : Fea} (hs : f.body.size ≤ 100) : (feaS f).size ≤ 60000 := by
  unfold feaS; split
  · rename_i h
    have h0 : Name f.name ∧ Name f.entity ∧ tyErr f.type = 0 ∧ shape f.body = 0 := by
      unfold feaErr at h
      split at h
      · omega
      · rename_i h1
        split at h
        · rename_i h2; exact absurd h h2
        · rename_i h2; exact ⟨by grind, by grind, Decidable.not_not.1 h2, h⟩
    have h1 := h0.1.size
    have h2 := h0.2.1.size
    have h3 := tyS_size h0.2.2.1
    have h4 := text_max h0.2.2.2 hs
    unfold feaT
    (first | omega | (simp only [List.length_cons, List.length_nil, List.length_append, List.length_map, List.length_take, app_size, szl, str_len, List.size_toArray]; omega))
  · decide
theorem itT_size (m : Mdl) (i : Nat) (h : m.tables.length ≤ 20) : (itCat ((itemsT m).take i)).size ≤ 2000000 := by
  have h1 := itCat_size (c := 60000) (l := (itemsT m).take i) (fun x hx => by
    obtain ⟨t, _, rfl⟩ := List.mem_map.1 (List.mem_of_mem_take hx); exact tableS_size t)
  have h2 : ((itemsT m).take i).length ≤ 20 := by rw [List.length_take, itemsT, List.length_map]; omega
  omega
theorem itF_size (m : Mdl) (i : Nat) (h : m.features.length ≤ 20) (hb : ∀ f ∈ m.features, f.body.size ≤ 100) : (itCat ((itemsF m).take i)).size ≤ 2000000 := by
  have h1 := itCat_size (c := 60000) (l := (itemsF m).take i) (fun x hx => by
    obtain ⟨f, hf, rfl⟩ := List.mem_map.1 (List.mem_of_mem_take hx); exact feaS_size (hb f hf))
  have h2 : ((itemsF m).take i).length ≤ 20 := by rw [List.length_take, itemsF, List.length_map]; omega
  omega
/-- What the law asks of a module. -/
structure Mdl.Small (m : Mdl) : Prop where
  t : m.tables.length ≤ 20
  f : m.features.length ≤ 20
  b : ∀ f ∈ m.features, f.body.size ≤ 100
theorem modErr_T {m : Mdl} {i : Nat} {x : Str × Int} (h0 : itErr ((itemsT m).take i) = 0) (h : (itemsT m).take (i + 1) = (itemsT m).take i ++ [x]) (hx : x.2 ≠ 0) : modErr m = x.2 := by
  have h1 := itErr_end h0 h hx
  unfold modErr
  rw [itErr_app, h1, if_neg hx, if_pos hx]
theorem modS_T {m : Mdl} {i : Nat} {x : Str × Int} (h0 : itErr ((itemsT m).take i) = 0) (h : (itemsT m).take (i + 1) = (itemsT m).take i ++ [x]) (hx : x.2 ≠ 0) : modS m = ⟨#[]⟩ := if_neg (by rw [modErr_T h0 h hx]; exact hx)
theorem modErr_F {m : Mdl} {i : Nat} {x : Str × Int} (hT : itErr (itemsT m) = 0) (h0 : itErr ((itemsF m).take i) = 0) (h : (itemsF m).take (i + 1) = (itemsF m).take i ++ [x]) (hx : x.2 ≠ 0) : modErr m = x.2 := by
  have h1 := itErr_end h0 h hx
  unfold modErr
  rw [itErr_app, hT, if_pos rfl, h1, if_pos hx]
theorem modS_F {m : Mdl} {i : Nat} {x : Str × Int} (hT : itErr (itemsT m) = 0) (h0 : itErr ((itemsF m).take i) = 0) (h : (itemsF m).take (i + 1) = (itemsF m).take i ++ [x]) (hx : x.2 ≠ 0) : modS m = ⟨#[]⟩ := if_neg (by rw [modErr_F hT h0 h hx]; exact hx)
theorem modErr_E {m : Mdl} (hT : itErr (itemsT m) = 0) (hF : itErr (itemsF m) = 0) : modErr m = if 16384 < (itCat (itemsT m ++ itemsF m)).size then 2 else 0 := by
  unfold modErr
  rw [itErr_app, hT, if_pos rfl, hF, if_neg (by decide)]
theorem module11_ok (m : Mdl) (hm : m.Small) : Pure Tryz.prog 21 [.agg m.cells] (.tup [sv (modS m), iv (modErr m)]) := by
  have hmt := hm.t
  have hmf := hm.f
  refine Pure.runk (fun _ => 0) Tryz.func21 comp21 era21 (Nat.le_of_ble_eq_true rfl) fun σ => ?_
  repeat' (first | exact .nil | refine .k0 ?_ | refine .k1 ?_ | refine .k2 ?_ | refine .k3 ?_ | refine .k4 ?_ | refine .k5 ?_ | refine .k6 ?_ | refine .k7 ?_ | refine .k8 ?_ | refine .k9 ?_ | (refine .cd ?_ ?_ <;> first | with_reducible exact tF | with_reducible exact fT | (intro hc; first | exact kf hc (by assumption) | exact kt hc (by assumption) | skip)) | refine .r1 ?_ ?_ | (refine .l1 ?_; intro b) | (refine .m1 ?_ ?_; intro b) | (refine .m2 ?_ ?_; intro hlen) | (refine .m3 ?_ ?_; intro hlen) | refine .t1 ?_ ?_ ?_ | refine .t2 ?_ ?_ ?_ | refine .t3 ?_ ?_ ?_ | refine .t4 ?_ ?_ ?_ | (refine .l2 ?_; intro b) | refine .u1 ?_ ?_ ?_ (fun b u c => ?_) | refine .u2 ?_ ?_ ?_ (fun b u c => ?_) | refine .an rfl (by intro hob; first | exact table11_ok (m.tables.getD i default) | exact feature11_ok (m.features.getD i default) (hm.b _ (getD_mem (by first | omega | (simp only [BL] at *; omega))))) ?_ ?_ | refine .t5 ?_ ?_ ?_ | refine .t6 ?_ ?_ ?_ | refine .t7 ?_ ?_ ?_ | refine .r2 ?_ ?_ | refine .r3 ?_ ?_ | refine .r4 ?_ ?_ | refine .r5 ?_ ?_ | (refine .l3 ?_; intro b) | refine .r6 ?_ ?_ | refine .r7 ?_ ?_ | refine .r8 ?_ ?_ | refine .r9 ?_ ?_ | refine .ra ?_ ?_ | (show List.all _ _ = true; rfl) | (show (_ : Nat) = _; rfl))
  try any_goals ((intro hob; first | (simp_all; done) | (simp only [BL] at *; first | (simp_all; done) | omega)))
  all_goals (try simp only [BL] at *)
  refine WK_loop (fun n rg σ' => ∃ i : Nat, i ≤ m.tables.length ∧ n = m.tables.length - i ∧ itErr ((itemsT m).take i) = 0 ∧ σ' = (1, b, Blk.cells m.cells) :: σ ∧ rg = [(1, .lp 1 b 0), (4, sv (itCat ((itemsT m).take i))), (5, iv i)]) m.tables.length rfl ⟨_, _, by repeat' first | exact .row | exact .refl _ | exact .nil | refine .cons ?_ ?_ | refine .tup ?_ | refine .agg ?_ | exact .sl | exact .own _ | exact .tag, by repeat' first | exact .refl _ | refine .same ?_ | refine .cons ?_, 0, Nat.zero_le _, rfl, rfl, rfl, rfl⟩ ?_
  rintro n _ _ ⟨i, hi, hn, hp, rfl, rfl⟩
  have hz := itT_size m i hmt
  have hz1 := tableS_size (m.tables.getD i default)
  have tk := fun h => take_map (fun t => (tableS t, tabErr t)) (l := m.tables) (i := i) h
  repeat' (first | exact .nil | refine .k0 ?_ | refine .k1 ?_ | refine .k2 ?_ | refine .k3 ?_ | refine .k4 ?_ | refine .k5 ?_ | refine .k6 ?_ | refine .k7 ?_ | refine .k8 ?_ | refine .k9 ?_ | (refine .cd ?_ ?_ <;> first | with_reducible exact tF | with_reducible exact fT | (intro hc; first | exact kf hc (by assumption) | exact kt hc (by assumption) | skip)) | refine .r1 ?_ ?_ | (refine .l1 ?_; intro b) | (refine .m1 ?_ ?_; intro b) | (refine .m2 ?_ ?_; intro hlen) | (refine .m3 ?_ ?_; intro hlen) | refine .t1 ?_ ?_ ?_ | refine .t2 ?_ ?_ ?_ | refine .t3 ?_ ?_ ?_ | refine .t4 ?_ ?_ ?_ | (refine .l2 ?_; intro b) | refine .u1 ?_ ?_ ?_ (fun b u c => ?_) | refine .u2 ?_ ?_ ?_ (fun b u c => ?_) | refine .an rfl (by intro hob; first | exact table11_ok (m.tables.getD i default) | exact feature11_ok (m.features.getD i default) (hm.b _ (getD_mem (by first | omega | (simp only [BL] at *; omega))))) ?_ ?_ | refine .t5 ?_ ?_ ?_ | refine .t6 ?_ ?_ ?_ | refine .t7 ?_ ?_ ?_ | refine .r2 ?_ ?_ | refine .r3 ?_ ?_ | refine .r4 ?_ ?_ | refine .r5 ?_ ?_ | (refine .l3 ?_; intro b) | refine .r6 ?_ ?_ | refine .r7 ?_ ?_ | refine .r8 ?_ ?_ | refine .r9 ?_ ?_ | refine .ra ?_ ?_ | (show List.all _ _ = true; rfl) | (show (_ : Nat) = _; rfl))
  try any_goals ((intro hob; first | (simp_all; done) | (simp only [BL] at *; first | (simp_all; done) | omega)))
  all_goals (try simp only [BL] at *)
  any_goals (first | omega | (simp only [List.length_cons, List.length_nil, List.length_append, List.length_map, List.length_take, app_size, szl, str_len, List.size_toArray]; omega))
  · rw [modErr_T hp (tk (by omega)) hc, modS_T hp (tk (by omega)) hc]
    (refine Sx.Fin.wk (by repeat' first | exact .refl _ | refine .same ?_ | refine .cons ?_) ?_; repeat' first | exact .refl _ | exact .nil | refine .cons ?_ ?_ | refine .tup ?_ | refine .agg ?_ | exact .sl | exact .own _)
  · refine ⟨m.tables.length - (i + 1), by omega, _, _, by repeat' first | exact .row | exact .refl _ | exact .nil | refine .cons ?_ ?_ | refine .tup ?_ | refine .agg ?_ | exact .sl | exact .own _ | exact .tag, by repeat' first | exact .refl _ | refine .same ?_ | refine .cons ?_, i + 1, by omega, rfl, itErr_step hp (tk (by omega)) hc, rfl, ?_⟩
    rw [show (itemsT m).take (i + 1) = _ from tk (by omega), itCat_snoc, up1 (n := m.tables.length) (by omega) (by assumption)]; rfl
  have hT : itErr (itemsT m) = 0 := by rwa [List.take_of_length_le (by rw [itemsT, List.length_map]; omega)] at hp
  have hz0 := itT_size m (itemsT m).length hmt
  rw [List.take_length] at hz0
  rw [List.take_of_length_le (l := itemsT m) (by rw [itemsT, List.length_map]; omega)]
  clear tk hz1 hz
  refine WK_loop (fun n rg σ' => ∃ i : Nat, i ≤ m.features.length ∧ n = m.features.length - i ∧ itErr ((itemsF m).take i) = 0 ∧ σ' = (1, b, Blk.cells m.cells) :: σ ∧ rg = [(1, .lp 1 b 0), (4, sv (itCat (itemsT m) ++ itCat ((itemsF m).take i))), (8, iv i)]) m.features.length rfl ⟨_, _, by repeat' first | exact .row | exact .refl _ | exact .nil | refine .cons ?_ ?_ | refine .tup ?_ | refine .agg ?_ | exact .sl | exact .own _ | exact .tag, by repeat' first | exact .refl _ | refine .same ?_ | refine .cons ?_, 0, Nat.zero_le _, rfl, rfl, rfl, by rw [show itCat ((itemsF m).take 0) = ⟨#[]⟩ from rfl, app_nil]; rfl⟩ ?_
  rintro n _ _ ⟨i, hi, hn, hp, rfl, rfl⟩
  have hz := itF_size m i hmf hm.b
  have hz1 := fun h => feaS_size (f := m.features.getD i default) (hm.b _ (getD_mem h))
  have tk := fun h => take_map (fun f => (feaS f, feaErr f)) (l := m.features) (i := i) h
  have hF : ¬ i < m.features.length → itErr (itemsF m) = 0 := fun h => by rwa [List.take_of_length_le (by rw [itemsF, List.length_map]; omega)] at hp
  have hC : ¬ i < m.features.length → itCat (itemsT m) ++ itCat ((itemsF m).take i) = itCat (itemsT m ++ itemsF m) := fun h => by rw [itCat_app, List.take_of_length_le (by rw [itemsF, List.length_map]; omega)]
  repeat' (first | exact .nil | refine .k0 ?_ | refine .k1 ?_ | refine .k2 ?_ | refine .k3 ?_ | refine .k4 ?_ | refine .k5 ?_ | refine .k6 ?_ | refine .k7 ?_ | refine .k8 ?_ | refine .k9 ?_ | (refine .cd ?_ ?_ <;> first | with_reducible exact tF | with_reducible exact fT | (intro hc; first | exact kf hc (by assumption) | exact kt hc (by assumption) | skip)) | refine .r1 ?_ ?_ | (refine .l1 ?_; intro b) | (refine .m1 ?_ ?_; intro b) | (refine .m2 ?_ ?_; intro hlen) | (refine .m3 ?_ ?_; intro hlen) | refine .t1 ?_ ?_ ?_ | refine .t2 ?_ ?_ ?_ | refine .t3 ?_ ?_ ?_ | refine .t4 ?_ ?_ ?_ | (refine .l2 ?_; intro b) | refine .u1 ?_ ?_ ?_ (fun b u c => ?_) | refine .u2 ?_ ?_ ?_ (fun b u c => ?_) | refine .an rfl (by intro hob; first | exact table11_ok (m.tables.getD i default) | exact feature11_ok (m.features.getD i default) (hm.b _ (getD_mem (by first | omega | (simp only [BL] at *; omega))))) ?_ ?_ | refine .t5 ?_ ?_ ?_ | refine .t6 ?_ ?_ ?_ | refine .t7 ?_ ?_ ?_ | refine .r2 ?_ ?_ | refine .r3 ?_ ?_ | refine .r4 ?_ ?_ | refine .r5 ?_ ?_ | (refine .l3 ?_; intro b) | refine .r6 ?_ ?_ | refine .r7 ?_ ?_ | refine .r8 ?_ ?_ | refine .r9 ?_ ?_ | refine .ra ?_ ?_ | (show List.all _ _ = true; rfl) | (show (_ : Nat) = _; rfl))
  try any_goals ((intro hob; first | (simp_all; done) | (simp only [BL] at *; first | (simp_all; done) | omega)))
  all_goals (try simp only [BL] at *)
  any_goals (first | omega | (simp only [List.length_cons, List.length_nil, List.length_append, List.length_map, List.length_take, app_size, szl, str_len, List.size_toArray]; omega))
  · rw [modErr_F hT hp (tk (by omega)) hc, modS_F hT hp (tk (by omega)) hc]
    (refine Sx.Fin.wk (by repeat' first | exact .refl _ | refine .same ?_ | refine .cons ?_) ?_; repeat' first | exact .refl _ | exact .nil | refine .cons ?_ ?_ | refine .tup ?_ | refine .agg ?_ | exact .sl | exact .own _)
  · refine ⟨m.features.length - (i + 1), by omega, _, _, by repeat' first | exact .row | exact .refl _ | exact .nil | refine .cons ?_ ?_ | refine .tup ?_ | refine .agg ?_ | exact .sl | exact .own _ | exact .tag, by repeat' first | exact .refl _ | refine .same ?_ | refine .cons ?_, i + 1, by omega, rfl, itErr_step hp (tk (by omega)) hc, rfl, ?_⟩
    rw [show (itemsF m).take (i + 1) = _ from tk (by omega), itCat_snoc, up1 (n := m.features.length) (by omega) (by assumption)]
    simp only [app_assoc]; rfl
  · rw [hC (by omega)] at hc
    have he : modErr m = 2 := (modErr_E hT (hF (by omega))).trans (if_pos (by omega))
    have hs : modS m = ⟨#[]⟩ := if_neg (by rw [he]; decide)
    rw [he, hs]
    (refine Sx.Fin.wk (by repeat' first | exact .refl _ | refine .same ?_ | refine .cons ?_) ?_; repeat' first | exact .refl _ | exact .nil | refine .cons ?_ ?_ | refine .tup ?_ | refine .agg ?_ | exact .sl | exact .own _)
  · rw [hC (by omega)] at hc ⊢
    have he : modErr m = 0 := (modErr_E hT (hF (by omega))).trans (if_neg (by omega))
    have hs : modS m = itCat (itemsT m ++ itemsF m) := if_pos he
    rw [he, hs]
    (refine Sx.Fin.wk (by repeat' first | exact .refl _ | refine .same ?_ | refine .cons ?_) ?_; repeat' first | exact .refl _ | exact .nil | refine .cons ?_ ?_ | refine .tup ?_ | refine .agg ?_ | exact .sl | exact .own _)
def FewMdl (m : Mdl) : Prop := (∀ t ∈ m.tables, FewTab t) ∧ (∀ f ∈ m.features, FewFea f) ∧ m.tables.length ≤ 20 ∧ m.features.length ≤ 20
instance (m : Mdl) : Decidable (FewMdl m) := inferInstanceAs (Decidable (_ ∧ _ ∧ _ ∧ _))
structure Mdl.Fits (m : Mdl) : Prop where
  t : ∀ t ∈ m.tables, t.Fits
  f : ∀ f ∈ m.features, f.Fits
theorem fewM_ok (m : Mdl) (hm : m.Fits) : Pure Tryz.prog 15 [.agg m.cells] (.v (.bool (decide (FewMdl m)))) := by
  refine Pure.runk (fun _ => 0) Tryz.func15 comp15 era15 (Nat.le_of_ble_eq_true rfl) fun σ => ?_
  repeat' (first | exact .nil | refine .k0 ?_ | refine .k1 ?_ | refine .k2 ?_ | refine .k3 ?_ | refine .k4 ?_ | refine .k5 ?_ | refine .k6 ?_ | refine .k7 ?_ | refine .k8 ?_ | refine .k9 ?_ | (refine .cd ?_ ?_ <;> first | with_reducible exact tF | with_reducible exact fT | (intro hc; first | exact kf hc (by assumption) | exact kt hc (by assumption) | skip)) | refine .r1 ?_ ?_ | (refine .l1 ?_; intro b) | (refine .m1 ?_ ?_; intro b) | (refine .m2 ?_ ?_; intro hlen) | (refine .m3 ?_ ?_; intro hlen) | refine .t1 ?_ ?_ ?_ | refine .t2 ?_ ?_ ?_ | refine .t3 ?_ ?_ ?_ | refine .t4 ?_ ?_ ?_ | (refine .l2 ?_; intro b) | refine .u1 ?_ ?_ ?_ (fun b u c => ?_) | refine .u2 ?_ ?_ ?_ (fun b u c => ?_) | refine .an rfl (by intro hob; first | exact fewTable_ok (m.tables.getD i default) (hm.t _ (getD_mem (by first | omega | (simp only [BL] at *; omega)))) | exact fewFeature_ok (m.features.getD i default) (hm.f _ (getD_mem (by first | omega | (simp only [BL] at *; omega))))) ?_ ?_ | refine .t5 ?_ ?_ ?_ | refine .t6 ?_ ?_ ?_ | refine .t7 ?_ ?_ ?_ | refine .r2 ?_ ?_ | refine .r3 ?_ ?_ | refine .r4 ?_ ?_ | refine .r5 ?_ ?_ | (refine .l3 ?_; intro b) | refine .r6 ?_ ?_ | refine .r7 ?_ ?_ | refine .r8 ?_ ?_ | refine .r9 ?_ ?_ | refine .ra ?_ ?_ | (show List.all _ _ = true; rfl) | (show (_ : Nat) = _; rfl))
  try any_goals ((intro hob; first | (simp_all; done) | (simp only [BL] at *; first | (simp_all; done) | omega)))
  all_goals (try simp only [BL] at *)
  refine WK_loop (fun n rg σ' => ∃ i : Nat, i ≤ m.tables.length ∧ n = m.tables.length - i ∧ (∀ j, j < i → FewTab (m.tables.getD j default)) ∧ σ' = (1, b, Blk.cells m.cells) :: σ ∧ rg = [(1, .lp 1 b 0), (3, iv i)]) m.tables.length rfl ⟨_, _, by repeat' first | exact .row | exact .refl _ | exact .nil | refine .cons ?_ ?_ | refine .tup ?_ | refine .agg ?_ | exact .sl | exact .own _ | exact .tag, by repeat' first | exact .refl _ | refine .same ?_ | refine .cons ?_, 0, Nat.zero_le _, rfl, fun j hj => absurd hj (by omega), rfl, rfl⟩ ?_
  rintro n _ _ ⟨i, hi, hn, hp, rfl, rfl⟩
  repeat' (first | exact .nil | refine .k0 ?_ | refine .k1 ?_ | refine .k2 ?_ | refine .k3 ?_ | refine .k4 ?_ | refine .k5 ?_ | refine .k6 ?_ | refine .k7 ?_ | refine .k8 ?_ | refine .k9 ?_ | (refine .cd ?_ ?_ <;> first | with_reducible exact tF | with_reducible exact fT | (intro hc; first | exact kf hc (by assumption) | exact kt hc (by assumption) | skip)) | refine .r1 ?_ ?_ | (refine .l1 ?_; intro b) | (refine .m1 ?_ ?_; intro b) | (refine .m2 ?_ ?_; intro hlen) | (refine .m3 ?_ ?_; intro hlen) | refine .t1 ?_ ?_ ?_ | refine .t2 ?_ ?_ ?_ | refine .t3 ?_ ?_ ?_ | refine .t4 ?_ ?_ ?_ | (refine .l2 ?_; intro b) | refine .u1 ?_ ?_ ?_ (fun b u c => ?_) | refine .u2 ?_ ?_ ?_ (fun b u c => ?_) | refine .an rfl (by intro hob; first | exact fewTable_ok (m.tables.getD i default) (hm.t _ (getD_mem (by first | omega | (simp only [BL] at *; omega)))) | exact fewFeature_ok (m.features.getD i default) (hm.f _ (getD_mem (by first | omega | (simp only [BL] at *; omega))))) ?_ ?_ | refine .t5 ?_ ?_ ?_ | refine .t6 ?_ ?_ ?_ | refine .t7 ?_ ?_ ?_ | refine .r2 ?_ ?_ | refine .r3 ?_ ?_ | refine .r4 ?_ ?_ | refine .r5 ?_ ?_ | (refine .l3 ?_; intro b) | refine .r6 ?_ ?_ | refine .r7 ?_ ?_ | refine .r8 ?_ ?_ | refine .r9 ?_ ?_ | refine .ra ?_ ?_ | (show List.all _ _ = true; rfl) | (show (_ : Nat) = _; rfl))
  try any_goals ((intro hob; first | (simp_all; done) | (simp only [BL] at *; first | (simp_all; done) | omega)))
  all_goals (try simp only [BL] at *)
  · refine Sx.Fin.intro (by repeat' first | exact .refl _ | refine .same ?_ | refine .cons ?_) (bf ?_)
    rintro ⟨h, _⟩
    exact hc (h _ (getD_mem (by omega)))
  · refine ⟨m.tables.length - (i + 1), by omega, _, _, by repeat' first | exact .row | exact .refl _ | exact .nil | refine .cons ?_ ?_ | refine .tup ?_ | refine .agg ?_ | exact .sl | exact .own _ | exact .tag, by repeat' first | exact .refl _ | refine .same ?_ | refine .cons ?_, i + 1, by omega, rfl, cons_lt hp hc, rfl, by rw [up1 (n := m.tables.length) (by omega) (by assumption)]⟩
  have hT : m.tables.length ≤ 20 → ∀ t ∈ m.tables, FewTab t := fun h => take_all (p := FewTab) (fun j hj => hp j (by omega))
  clear hp
  refine WK_loop (fun n rg σ' => ∃ i : Nat, i ≤ m.features.length ∧ n = m.features.length - i ∧ (∀ j, j < i → FewFea (m.features.getD j default)) ∧ σ' = (1, b, Blk.cells m.cells) :: σ ∧ rg = [(1, .lp 1 b 0), (4, iv i)]) m.features.length rfl ⟨_, _, by repeat' first | exact .row | exact .refl _ | exact .nil | refine .cons ?_ ?_ | refine .tup ?_ | refine .agg ?_ | exact .sl | exact .own _ | exact .tag, by repeat' first | exact .refl _ | refine .same ?_ | refine .cons ?_, 0, Nat.zero_le _, rfl, fun j hj => absurd hj (by omega), rfl, rfl⟩ ?_
  rintro n _ _ ⟨i, hi, hn, hp, rfl, rfl⟩
  repeat' (first | exact .nil | refine .k0 ?_ | refine .k1 ?_ | refine .k2 ?_ | refine .k3 ?_ | refine .k4 ?_ | refine .k5 ?_ | refine .k6 ?_ | refine .k7 ?_ | refine .k8 ?_ | refine .k9 ?_ | (refine .cd ?_ ?_ <;> first | with_reducible exact tF | with_reducible exact fT | (intro hc; first | exact kf hc (by assumption) | exact kt hc (by assumption) | skip)) | refine .r1 ?_ ?_ | (refine .l1 ?_; intro b) | (refine .m1 ?_ ?_; intro b) | (refine .m2 ?_ ?_; intro hlen) | (refine .m3 ?_ ?_; intro hlen) | refine .t1 ?_ ?_ ?_ | refine .t2 ?_ ?_ ?_ | refine .t3 ?_ ?_ ?_ | refine .t4 ?_ ?_ ?_ | (refine .l2 ?_; intro b) | refine .u1 ?_ ?_ ?_ (fun b u c => ?_) | refine .u2 ?_ ?_ ?_ (fun b u c => ?_) | refine .an rfl (by intro hob; first | exact fewTable_ok (m.tables.getD i default) (hm.t _ (getD_mem (by first | omega | (simp only [BL] at *; omega)))) | exact fewFeature_ok (m.features.getD i default) (hm.f _ (getD_mem (by first | omega | (simp only [BL] at *; omega))))) ?_ ?_ | refine .t5 ?_ ?_ ?_ | refine .t6 ?_ ?_ ?_ | refine .t7 ?_ ?_ ?_ | refine .r2 ?_ ?_ | refine .r3 ?_ ?_ | refine .r4 ?_ ?_ | refine .r5 ?_ ?_ | (refine .l3 ?_; intro b) | refine .r6 ?_ ?_ | refine .r7 ?_ ?_ | refine .r8 ?_ ?_ | refine .r9 ?_ ?_ | refine .ra ?_ ?_ | (show List.all _ _ = true; rfl) | (show (_ : Nat) = _; rfl))
  try any_goals ((intro hob; first | (simp_all; done) | (simp only [BL] at *; first | (simp_all; done) | omega)))
  all_goals (try simp only [BL] at *)
  · refine Sx.Fin.intro (by repeat' first | exact .refl _ | refine .same ?_ | refine .cons ?_) (bf ?_)
    rintro ⟨_, h, _⟩
    exact hc (h _ (getD_mem (by omega)))
  · refine ⟨m.features.length - (i + 1), by omega, _, _, by repeat' first | exact .row | exact .refl _ | exact .nil | refine .cons ?_ ?_ | refine .tup ?_ | refine .agg ?_ | exact .sl | exact .own _ | exact .tag, by repeat' first | exact .refl _ | refine .same ?_ | refine .cons ?_, i + 1, by omega, rfl, cons_lt hp hc, rfl, by rw [up1 (n := m.features.length) (by omega) (by assumption)]⟩
  · have hF : m.features.length ≤ 20 → ∀ f ∈ m.features, FewFea f := fun h => take_all (p := FewFea) (fun j hj => hp j (by omega))
    refine Sx.Fin.intro (by repeat' first | exact .refl _ | refine .same ?_ | refine .cons ?_) (bd ?_)
    unfold FewMdl
    grind
end Go.Proofs.YtklncofkcfjkeaaGreatDoor
