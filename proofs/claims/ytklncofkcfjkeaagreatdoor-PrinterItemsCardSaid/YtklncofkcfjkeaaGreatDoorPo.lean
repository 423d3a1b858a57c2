
/- Texts of expressions: the reference's walk. -/
import Derived.Test.YtklncofkcfjkeaaGreatDoorPl
set_option linter.unusedSimpArgs false
set_option linter.unusedVariables false
set_option maxRecDepth 100000
set_option maxHeartbeats 4000000
namespace Go.Proofs.YtklncofkcfjkeaaGreatDoor
open Go.Sx Go.Proofs
theorem at_ok (x : Ex) (h : Kids x 34) (i : Nat) (hi : i < x.args.length) (hop : OpOK (x.args.getD i default)) (r : Int) : Pure Tryz.prog 69 [.agg (x.args.getD i default).row, iv r] (sv (atF x (tx x) i r)) := by
  have hz := h.z i hi
  rw [Ex.row_eq (x.args.getD i default)]
  refine Pure.runk (fun _ => 0) Tryz.func69 comp69 era69 (Nat.le_of_ble_eq_true rfl) fun σ => ?_
  repeat' (first | exact .nil | refine .k0 ?_ | refine .k1 ?_ | refine .k2 ?_ | refine .k3 ?_ | refine .k4 ?_ | refine .k5 ?_ | refine .k6 ?_ | refine .k7 ?_ | refine .k8 ?_ | refine .k9 ?_ | (refine .cd ?_ ?_ <;> first | with_reducible exact tF | with_reducible exact fT | (intro hc; first | exact kf hc (by assumption) | exact kt hc (by assumption) | skip)) | refine .r1 ?_ ?_ | (refine .l1 ?_; intro b) | (refine .m1 ?_ ?_; intro b) | (refine .m2 ?_ ?_; intro hlen) | (refine .m3 ?_ ?_; intro hlen) | refine .t1 ?_ ?_ ?_ | refine .t2 ?_ ?_ ?_ | refine .t3 ?_ ?_ ?_ | refine .t4 ?_ ?_ ?_ | (refine .l2 ?_; intro b) | refine .u1 ?_ ?_ ?_ (fun b u c => ?_) | refine .u2 ?_ ?_ ?_ (fun b u c => ?_) | refine .an rfl (by intro hob; first | (refine (h.t i hi).wk ?_; (repeat' first | exact .row | exact .refl _ | exact .nil | refine .cons ?_ ?_ | refine .tup ?_ | refine .agg ?_ | exact .sl | exact .own _); done) | (refine (rankR_ok (x.args.getD i default) hop).wk ?_; (repeat' first | exact .row | exact .refl _ | exact .nil | refine .cons ?_ ?_ | refine .tup ?_ | refine .agg ?_ | exact .sl | exact .own _); done)) ?_ ?_ | refine .t5 ?_ ?_ ?_ | refine .t6 ?_ ?_ ?_ | refine .t7 ?_ ?_ ?_ | refine .r2 ?_ ?_ | refine .r3 ?_ ?_ | refine .r4 ?_ ?_ | refine .r5 ?_ ?_ | (refine .l3 ?_; intro b) | refine .r6 ?_ ?_ | refine .r7 ?_ ?_ | refine .r8 ?_ ?_ | refine .r9 ?_ ?_ | refine .ra ?_ ?_ | (show List.all _ _ = true; rfl) | (show (_ : Nat) = _; rfl))
  try any_goals ((intro hob; first | (simp_all; done) | (simp only [BL] at *; first | (simp_all; done) | omega)))
  all_goals (try simp only [BL] at *)
  try any_goals (first | omega | (simp only [List.length_cons, List.length_nil, List.length_append, List.length_map, List.length_take, app_size, szl, str_len, List.size_toArray]; omega))
  all_goals (refine Sx.Fin.intro (by repeat' first | exact .refl _ | refine .same ?_ | refine .cons ?_) (bs ?_); first | (rw [atF, if_pos hc]; simp only [par, app_assoc]; done) | (rw [atF, if_neg hc]; done))
theorem unaryR_ok (x : Ex) (h : Kids x 34) (hop : ∀ i, i < x.args.length → OpOK (x.args.getD i default)) (hl : x.args.length = 1) : Pure Tryz.prog 67 [.agg x.row] (sv (unT x (tx x))) := by
  have hz := h.z 0 (by omega)
  have hz1 := @atF_len x _ h 0 8 (by omega)
  have hz2 := @atF_len x _ h 0 4 (by omega)
  rw [Ex.row_eq x]
  refine Pure.runk (fun _ => 0) Tryz.func67 comp67 era67 (Nat.le_of_ble_eq_true rfl) fun σ => ?_
  repeat' (first | exact .nil | refine .k0 ?_ | refine .k1 ?_ | refine .k2 ?_ | refine .k3 ?_ | refine .k4 ?_ | refine .k5 ?_ | refine .k6 ?_ | refine .k7 ?_ | refine .k8 ?_ | refine .k9 ?_ | (refine .cd ?_ ?_ <;> first | with_reducible exact tF | with_reducible exact fT | (intro hc; first | exact kf hc (by assumption) | exact kt hc (by assumption) | skip)) | refine .r1 ?_ ?_ | (refine .l1 ?_; intro b) | (refine .m1 ?_ ?_; intro b) | (refine .m2 ?_ ?_; intro hlen) | (refine .m3 ?_ ?_; intro hlen) | refine .t1 ?_ ?_ ?_ | refine .t2 ?_ ?_ ?_ | refine .t3 ?_ ?_ ?_ | refine .t4 ?_ ?_ ?_ | (refine .l2 ?_; intro b) | refine .u1 ?_ ?_ ?_ (fun b u c => ?_) | refine .u2 ?_ ?_ ?_ (fun b u c => ?_) | refine .an rfl (by intro hob; first | exact h.t 0 (by omega) | exact h.t 1 (by omega) | exact h.t 2 (by omega) | exact at_ok x h 0 (by omega) (hop 0 (by omega)) _ | exact at_ok x h 1 (by omega) (hop 1 (by omega)) _ | (refine (rankR_ok x hx).wk ?_; (repeat' first | exact .row | exact .refl _ | exact .nil | refine .cons ?_ ?_ | refine .tup ?_ | refine .agg ?_ | exact .sl | exact .own _); done) | exact windowR11_ok x.win hw | exact hd2 | exact sameExpr_ok (x.args.getD 1 default) tru | exact true_ok) ?_ ?_ | refine .t5 ?_ ?_ ?_ | refine .t6 ?_ ?_ ?_ | refine .t7 ?_ ?_ ?_ | refine .r2 ?_ ?_ | refine .r3 ?_ ?_ | refine .r4 ?_ ?_ | refine .r5 ?_ ?_ | (refine .l3 ?_; intro b) | refine .r6 ?_ ?_ | refine .r7 ?_ ?_ | refine .r8 ?_ ?_ | refine .r9 ?_ ?_ | refine .ra ?_ ?_ | (show List.all _ _ = true; rfl) | (show (_ : Nat) = _; rfl))
  try any_goals ((intro hob; first | (simp_all; done) | (simp only [BL] at *; first | (simp_all; done) | omega)))
  all_goals (try simp only [BL] at *)
  try any_goals omega
  try any_goals (first | omega | (simp only [List.length_cons, List.length_nil, List.length_append, List.length_map, List.length_take, app_size, szl, str_len, List.size_toArray]; omega))
  all_goals (refine Sx.Fin.intro (by repeat' first | exact .refl _ | refine .same ?_ | refine .cons ?_) (bs ?_); simp [unT, app_assoc, *]; done)
theorem binaryR_ok (x : Ex) (h : Kids x 34) (hop : ∀ i, i < x.args.length → OpOK (x.args.getD i default)) (hx : OpOK x) (hl : x.args.length = 2) (ho : x.op.size ≤ 8) : Pure Tryz.prog 68 [.agg x.row] (sv (binT x (tx x))) := by
  have hz := @atF_len x _ h 0 (rank x) (by omega)
  have hz1 := @atF_len x _ h 0 6 (by omega)
  have hz2 := @atF_len x _ h 1 (IntKind.i64.wrap (rank x + 1)) (by omega)
  have hr := rank_le x
  rw [Ex.row_eq x]
  refine Pure.runk (fun _ => 0) Tryz.func68 comp68 era68 (Nat.le_of_ble_eq_true rfl) fun σ => ?_
  repeat' (first | exact .nil | refine .k0 ?_ | refine .k1 ?_ | refine .k2 ?_ | refine .k3 ?_ | refine .k4 ?_ | refine .k5 ?_ | refine .k6 ?_ | refine .k7 ?_ | refine .k8 ?_ | refine .k9 ?_ | (refine .cd ?_ ?_ <;> first | with_reducible exact tF | with_reducible exact fT | (intro hc; first | exact kf hc (by assumption) | exact kt hc (by assumption) | skip)) | refine .r1 ?_ ?_ | (refine .l1 ?_; intro b) | (refine .m1 ?_ ?_; intro b) | (refine .m2 ?_ ?_; intro hlen) | (refine .m3 ?_ ?_; intro hlen) | refine .t1 ?_ ?_ ?_ | refine .t2 ?_ ?_ ?_ | refine .t3 ?_ ?_ ?_ | refine .t4 ?_ ?_ ?_ | (refine .l2 ?_; intro b) | refine .u1 ?_ ?_ ?_ (fun b u c => ?_) | refine .u2 ?_ ?_ ?_ (fun b u c => ?_) | refine .an rfl (by intro hob; first | exact h.t 0 (by omega) | exact h.t 1 (by omega) | exact h.t 2 (by omega) | exact at_ok x h 0 (by omega) (hop 0 (by omega)) _ | exact at_ok x h 1 (by omega) (hop 1 (by omega)) _ | (refine (rankR_ok x hx).wk ?_; (repeat' first | exact .row | exact .refl _ | exact .nil | refine .cons ?_ ?_ | refine .tup ?_ | refine .agg ?_ | exact .sl | exact .own _); done) | exact windowR11_ok x.win hw | exact hd2 | exact sameExpr_ok (x.args.getD 1 default) tru | exact true_ok) ?_ ?_ | refine .t5 ?_ ?_ ?_ | refine .t6 ?_ ?_ ?_ | refine .t7 ?_ ?_ ?_ | refine .r2 ?_ ?_ | refine .r3 ?_ ?_ | refine .r4 ?_ ?_ | refine .r5 ?_ ?_ | (refine .l3 ?_; intro b) | refine .r6 ?_ ?_ | refine .r7 ?_ ?_ | refine .r8 ?_ ?_ | refine .r9 ?_ ?_ | refine .ra ?_ ?_ | (show List.all _ _ = true; rfl) | (show (_ : Nat) = _; rfl))
  try any_goals ((intro hob; first | (simp_all; done) | (simp only [BL] at *; first | (simp_all; done) | omega)))
  all_goals (try simp only [BL] at *)
  try any_goals omega
  try any_goals (first | omega | (simp only [List.length_cons, List.length_nil, List.length_append, List.length_map, List.length_take, app_size, szl, str_len, List.size_toArray]; omega))
  all_goals (refine Sx.Fin.intro (by repeat' first | exact .refl _ | refine .same ?_ | refine .cons ?_) (bs ?_); have hw : IntKind.i64.wrap (rank x + 1) = rank x + 1 := i64w (by omega)
             rw [hw]; unfold binT leftR; simp only [hc, app_assoc, if_true, if_false]; done)
theorem par_iff {x : Ex} (h : parOK x) : x.param = 0 ↔ ¬ (x.op = ⟨#[113, 117, 97, 110, 116, 105, 108, 101]⟩ ∨ x.op = ⟨#[100, 101, 99, 97, 121]⟩) := by
  unfold parOK at h
  split at h
  · rename_i e; constructor
    · intro e2; omega
    · intro e2; exact absurd (.inl e) e2
  · split at h
    · rename_i e; constructor
      · intro e2; omega
      · intro e2; exact absurd (.inr e) e2
    · rename_i e1 e2
      exact ⟨fun _ h => h.elim e1 e2, fun _ => h⟩
theorem c_q : (⟨#[99, 111, 117, 110, 116]⟩ : Str) ≠ ⟨#[113, 117, 97, 110, 116, 105, 108, 101]⟩ ∧ (⟨#[99, 111, 117, 110, 116]⟩ : Str) ≠ ⟨#[100, 101, 99, 97, 121]⟩ := by decide
theorem aggregateR11_ok (x : Ex) (h : Kids x 34) (hl : x.args.length = 2) (ho : x.op.size ≤ 8) (ht : x.table.size ≤ 24) (hw : winOK x.win) (hp : parOK x) (hf : form true (x.args.getD 1 default) = true) : Pure Tryz.prog 66 [.agg x.row] (sv (aggT x (tx x))) := by
  have hz := h.z 0 (by omega)
  have hz1 := h.z 1 (by omega)
  have hp2 := par_le hp
  have hd2 := digits05_ok x.param.toNat (by omega)
  rw [show ((x.param.toNat : Nat) : Int) = x.param by omega] at hd2
  have hz3 : (Lib.decDigits x.param.toNat).length ≤ 21 := dd_len (by omega)
  have hz4 := winT_size hw
  rw [Ex.row_eq x]
  refine Pure.runk (fun _ => 0) Tryz.func66 comp66 era66 (Nat.le_of_ble_eq_true rfl) fun σ => ?_
  repeat' (first | exact .nil | refine .k0 ?_ | refine .k1 ?_ | refine .k2 ?_ | refine .k3 ?_ | refine .k4 ?_ | refine .k5 ?_ | refine .k6 ?_ | refine .k7 ?_ | refine .k8 ?_ | refine .k9 ?_ | (refine .cd ?_ ?_ <;> first | with_reducible exact tF | with_reducible exact fT | (intro hc; first | exact kf hc (by assumption) | exact kt hc (by assumption) | skip)) | refine .r1 ?_ ?_ | (refine .l1 ?_; intro b) | (refine .m1 ?_ ?_; intro b) | (refine .m2 ?_ ?_; intro hlen) | (refine .m3 ?_ ?_; intro hlen) | refine .t1 ?_ ?_ ?_ | refine .t2 ?_ ?_ ?_ | refine .t3 ?_ ?_ ?_ | refine .t4 ?_ ?_ ?_ | (refine .l2 ?_; intro b) | refine .u1 ?_ ?_ ?_ (fun b u c => ?_) | refine .u2 ?_ ?_ ?_ (fun b u c => ?_) | refine .an rfl (by intro hob; first | exact h.t 0 (by omega) | exact h.t 1 (by omega) | exact h.t 2 (by omega) | exact at_ok x h 0 (by omega) (hop 0 (by omega)) _ | exact at_ok x h 1 (by omega) (hop 1 (by omega)) _ | (refine (rankR_ok x hx).wk ?_; (repeat' first | exact .row | exact .refl _ | exact .nil | refine .cons ?_ ?_ | refine .tup ?_ | refine .agg ?_ | exact .sl | exact .own _); done) | exact windowR11_ok x.win hw | exact hd2 | exact sameExpr_ok (x.args.getD 1 default) tru | exact true_ok) ?_ ?_ | refine .t5 ?_ ?_ ?_ | refine .t6 ?_ ?_ ?_ | refine .t7 ?_ ?_ ?_ | refine .r2 ?_ ?_ | refine .r3 ?_ ?_ | refine .r4 ?_ ?_ | refine .r5 ?_ ?_ | (refine .l3 ?_; intro b) | refine .r6 ?_ ?_ | refine .r7 ?_ ?_ | refine .r8 ?_ ?_ | refine .r9 ?_ ?_ | refine .ra ?_ ?_ | (show List.all _ _ = true; rfl) | (show (_ : Nat) = _; rfl))
  try any_goals ((intro hob; first | (simp_all; done) | (simp only [BL] at *; first | (simp_all; done) | omega)))
  all_goals (try simp only [BL] at *)
  try any_goals omega
  try any_goals (first | omega | (simp only [List.length_cons, List.length_nil, List.length_append, List.length_map, List.length_take, app_size, szl, str_len, List.size_toArray]; omega))
  all_goals (refine Sx.Fin.intro (by repeat' first | exact .refl _ | refine .same ?_ | refine .cons ?_) (bs ?_); have hy := par_iff hp; have hcq := c_q; unfold aggT cnt intS; repeat' split
             all_goals first | (exfalso; grind) | (simp only [app_nil, app_nil', app_assoc]; done))
theorem textR_ok (x : Ex) : ∀ ins, form ins x = true → x.size ≤ 100 → Pure Tryz.prog 34 [.agg x.row] (sv (text x)) := by
  induction x using Ex.ind with
  | h x ih =>
  intro ins hf hs
  have h := FOK.of hf
  have hk : Kids x 34 := by
    constructor
    · intro i hi
      have := Ex.size_lt (getD_mem hi)
      rw [tx_at hi]
      exact ih _ (getD_mem hi) _ (h.sub _ (getD_mem hi)) (by omega)
    · intro i hi
      have := Ex.size_lt (getD_mem hi)
      rw [tx_at hi]
      exact Nat.le_trans (text_size _ _ (h.sub _ (getD_mem hi))) (by omega)
  have hop : ∀ i, i < x.args.length → OpOK (x.args.getD i default) := fun i hi => opOK_of (h.sub _ (getD_mem hi))
  have hx := opOK_of hf
  obtain ⟨p1, p2, p4, p5, p6, p7, p8, p9⟩ := parts h
  have hr := kinds_of h.nb
  have he7 : x.kind = 7 → x.op.size ≤ 8 := fun e => by
    obtain ⟨hl, y, hy, ho⟩ := p7 e
    have e1 := binL_size y hy
    rwa [← ho] at e1
  have he : x.kind = 5 → x.op.size ≤ 8 ∧ x.table.size ≤ 24 ∧ winOK x.win ∧ parOK x ∧ form true (x.args.getD 1 default) = true := fun e => by
    have hA := (p5 e).1
    obtain ⟨⟨y, hy, ho⟩, ht, hw, hp, -⟩ := hA
    have e1 := aggL_size y hy
    rw [← ho] at e1
    have hl := (p5 e).2
    have h1 := h.sub _ (getD_mem (i := 1) (by omega))
    rw [e] at h1
    exact ⟨e1, ht.1.2.1, hw, hp, by simpa using h1⟩
  have hn4 : x.kind = 4 → x.name.size ≤ 24 := fun e => (p4 e).1.1.1.2.1
  have l4 := fun e => (p4 e).2
  have l5 := fun e => (p5 e).2
  have l6 := fun e => (p6 e).1
  have l7 := fun e => (p7 e).1
  have hz0 := hk.z 0
  have hz1 := hk.z 1
  have hz2 := hk.z 2
  have ha0 := fun e => @atF_len x _ hk 0 1 e
  have ha1 := fun e => @atF_len x _ hk 1 2 e
  clear ih
  rw [Ex.row_eq x]
  refine Pure.runk (fun _ => 0) Tryz.func34 comp34 era34 (Nat.le_of_ble_eq_true rfl) fun σ => ?_
  repeat' (first | exact .nil | refine .k0 ?_ | refine .k1 ?_ | refine .k2 ?_ | refine .k3 ?_ | refine .k4 ?_ | refine .k5 ?_ | refine .k6 ?_ | refine .k7 ?_ | refine .k8 ?_ | refine .k9 ?_ | (refine .cd ?_ ?_ <;> first | with_reducible exact tF | with_reducible exact fT | (intro hc; first | exact kf hc (by assumption) | exact kt hc (by assumption) | skip)) | refine .r1 ?_ ?_ | (refine .l1 ?_; intro b) | (refine .m1 ?_ ?_; intro b) | (refine .m2 ?_ ?_; intro hlen) | (refine .m3 ?_ ?_; intro hlen) | refine .t1 ?_ ?_ ?_ | refine .t2 ?_ ?_ ?_ | refine .t3 ?_ ?_ ?_ | refine .t4 ?_ ?_ ?_ | (refine .l2 ?_; intro b) | refine .u1 ?_ ?_ ?_ (fun b u c => ?_) | refine .u2 ?_ ?_ ?_ (fun b u c => ?_) | refine .an rfl (by intro hob; first | (refine (literalR11_ok x (p1 (by first | omega | (simp only [BL] at *; omega))).1).wk ?_; (repeat' first | exact .row | exact .refl _ | exact .nil | refine .cons ?_ ?_ | refine .tup ?_ | refine .agg ?_ | exact .sl | exact .own _); done) | (refine (aggregateR11_ok x hk (p5 (by first | omega | (simp only [BL] at *; omega))).2 (he (by first | omega | (simp only [BL] at *; omega))).1 (he (by first | omega | (simp only [BL] at *; omega))).2.1 (he (by first | omega | (simp only [BL] at *; omega))).2.2.1 (he (by first | omega | (simp only [BL] at *; omega))).2.2.2.1 (he (by first | omega | (simp only [BL] at *; omega))).2.2.2.2).wk ?_; (repeat' first | exact .row | exact .refl _ | exact .nil | refine .cons ?_ ?_ | refine .tup ?_ | refine .agg ?_ | exact .sl | exact .own _); done) | (refine (unaryR_ok x hk hop (p6 (by first | omega | (simp only [BL] at *; omega))).1).wk ?_; (repeat' first | exact .row | exact .refl _ | exact .nil | refine .cons ?_ ?_ | refine .tup ?_ | refine .agg ?_ | exact .sl | exact .own _); done) | (refine (binaryR_ok x hk hop hx (p7 (by first | omega | (simp only [BL] at *; omega))).1 (he7 (by first | omega | (simp only [BL] at *; omega)))).wk ?_; (repeat' first | exact .row | exact .refl _ | exact .nil | refine .cons ?_ ?_ | refine .tup ?_ | refine .agg ?_ | exact .sl | exact .own _); done) | exact hk.t 0 (by first | omega | (simp only [BL] at *; omega)) | exact hk.t 1 (by first | omega | (simp only [BL] at *; omega)) | exact hk.t 2 (by first | omega | (simp only [BL] at *; omega)) | exact at_ok x hk 0 (by first | omega | (simp only [BL] at *; omega)) (hop 0 (by first | omega | (simp only [BL] at *; omega))) _ | exact at_ok x hk 1 (by first | omega | (simp only [BL] at *; omega)) (hop 1 (by first | omega | (simp only [BL] at *; omega))) _) ?_ ?_ | refine .t5 ?_ ?_ ?_ | refine .t6 ?_ ?_ ?_ | refine .t7 ?_ ?_ ?_ | refine .r2 ?_ ?_ | refine .r3 ?_ ?_ | refine .r4 ?_ ?_ | refine .r5 ?_ ?_ | (refine .l3 ?_; intro b) | refine .r6 ?_ ?_ | refine .r7 ?_ ?_ | refine .r8 ?_ ?_ | refine .r9 ?_ ?_ | refine .ra ?_ ?_ | (show List.all _ _ = true; rfl) | (show (_ : Nat) = _; rfl))
  try any_goals ((intro hob; first | (simp_all; done) | (simp only [BL] at *; first | (simp_all; done) | omega)))
  all_goals (try simp only [BL] at *)
  any_goals (first | omega | (simp only [List.length_cons, List.length_nil, List.length_append, List.length_map, List.length_take, app_size, szl, str_len, List.size_toArray]; omega))
  all_goals (refine Sx.Fin.intro (by repeat' first | exact .refl _ | refine .same ?_ | refine .cons ?_) (bs ?_); rw [text_eq, textF]; repeat' split
             all_goals clear hz0 hz1 hz2 ha0 ha1 hn4 l4 l5 l6 l7 p1 p2 p4 p5 p6 p7 p8 p9 he he7 hx hop hk h hf hs
             all_goals first | (exfalso; omega) | rfl | (simp only [ifT, defT, app_assoc]; done))
end Go.Proofs.YtklncofkcfjkeaaGreatDoor
