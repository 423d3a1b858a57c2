/- The world of LeaseExcludes: its cells. -/
import Derived.Test.YtcibmkacgfhnkaaFnn
set_option linter.unusedSimpArgs false
set_option linter.unusedVariables false
namespace Go.Proofs.Ytcibmkacgfhnkaa
open Go.Sx Go.Proofs

def CK (ck : Nat → Int) : List AV := rowsF 9 1 fun i => [.v (.int .i64 (ck i))]
def OW (own : Nat → Nat → Lease) : List AV := rowsF 9 80 fun i => TB (own i)
def WC (s : St) (ck : Nat → Int) (own : Nat → Nat → Lease) : List AV := s.cells ++ (CK ck ++ OW own)
def updC (ck : Nat → Int) (i : Nat) (x : Int) : Nat → Int := fun k => if k = i then x else ck k
def updO (own : Nat → Nat → Lease) (i r : Nat) (x : Lease) : Nat → Nat → Lease := fun k => if k = i then upd (own i) r x else own k

theorem CK_hf (ck : Nat → Int) : ∀ k, ((fun i => [AV.v (.int .i64 (ck i))]) k).length = 1 := fun _ => rfl
theorem OW_hf (own : Nat → Nat → Lease) : ∀ k, ((fun i => TB (own i)) k).length = 80 := fun k => TB_len (own k)
theorem CK_len (ck : Nat → Int) : (CK ck).length = 9 := rowsF_len (CK_hf ck) 9
theorem OW_len (own : Nat → Nat → Lease) : (OW own).length = 720 := rowsF_len (OW_hf own) 9
theorem WC_len (s : St) (ck : Nat → Int) (own : Nat → Nat → Lease) : (WC s ck own).length = 733 := by
  unfold WC; rw [List.length_append, List.length_append, CK_len, OW_len]; rfl

section
variable {s : St} {ck : Nat → Int} {own : Nat → Nat → Lease} {i r : Int}
theorem WC_g : ((WC s ck own).drop (0 + 0)).take 4 = s.cells ∧ 0 + 0 + 4 ≤ (WC s ck own).length := by
  refine ⟨?_, by rw [WC_len]; omega⟩
  unfold WC
  rw [row_front (by exact Nat.le_refl 4)]; rfl
theorem WC_sg {s' : St} : over (WC s ck own) (0 + 0) [.v (.int .i64 s'.now), .v (.int .i64 s'.len), .v (.int .i64 s'.drift), .sl false 5 (s'.last.map Lease.cells)] = WC s' ck own ∧ 0 + 0 + 4 ≤ (WC s ck own).length := by
  refine ⟨?_, by rw [WC_len]; omega⟩
  unfold WC
  rw [over_front (by exact Nat.le_refl 4)]; rfl
theorem WC_c (h : 0 ≤ i ∧ i < 9) : (WC s ck own)[0 + 4 + i.toNat * 1]? = some (.v (.int .i64 (ck i.toNat))) := by
  unfold WC
  rw [show 0 + 4 + i.toNat * 1 = 4 + (i.toNat * 1 + 0) from by omega, get_behind (n := 4) rfl, get_front (by rw [CK_len]; omega)]
  exact rowsF_get (CK_hf ck) (n := 9) (r := i.toNat) (j := 0) (by omega) (by omega)
theorem WC_sc {x : Int} (h : 0 ≤ i ∧ i < 9) : over (WC s ck own) (0 + 4 + i.toNat * 1) [.v (.int .i64 x)] = WC s (updC ck i.toNat x) own ∧ 0 + 4 + i.toNat * 1 + 1 ≤ (WC s ck own).length := by
  refine ⟨?_, by rw [WC_len]; omega⟩
  unfold WC
  rw [show 0 + 4 + i.toNat * 1 = 4 + (i.toNat * 1 + 0) from by omega, over_behind (n := 4) rfl (by simp [CK_len, OW_len]; omega), over_front (by simp [CK_len]; omega)]
  have := rowsF_set (CK_hf ck) (n := 9) (r := i.toNat) (o := 0) (by omega) (l' := [.v (.int .i64 x)]) (Nat.le_refl 1)
  unfold CK
  rw [this]
  congr 2
  congr 1
  funext k
  unfold updC
  by_cases e : k = i.toNat
  · simp only [e, if_true]; rfl
  · simp only [e, if_false]
theorem WC_o (h : 0 ≤ i ∧ i < 9) (hr : 0 ≤ r ∧ r < 16) : ((WC s ck own).drop (0 + 13 + i.toNat * 80 + r.toNat * 5)).take 5 = (own i.toNat r.toNat).cells ∧ 0 + 13 + i.toNat * 80 + r.toNat * 5 + 5 ≤ (WC s ck own).length := by
  refine ⟨?_, by rw [WC_len]; omega⟩
  unfold WC
  rw [show 0 + 13 + i.toNat * 80 + r.toNat * 5 = 4 + (9 + (i.toNat * 80 + r.toNat * 5)) from by omega, row_behind (n := 4) rfl, row_behind (CK_len ck)]
  have h1 := rowsF_row (OW_hf own) (n := 9) (r := i.toNat) (by omega)
  have h2 := rowsF_row (TB_hf (own i.toNat)) (n := 16) (r := r.toNat) (by omega)
  have e : ((OW own).drop (i.toNat * 80 + r.toNat * 5)).take 5 = ((((OW own).drop (i.toNat * 80)).take 80).drop (r.toNat * 5)).take 5 := by
    rw [List.drop_take, List.take_take, List.drop_drop, Nat.min_eq_left (by omega)]
  rw [e]
  unfold OW
  rw [h1]
  exact h2
theorem WC_so {x : Lease} (h : 0 ≤ i ∧ i < 9) (hr : 0 ≤ r ∧ r < 16) : over (WC s ck own) (0 + 13 + i.toNat * 80 + r.toNat * 5) [.v (.int .i64 x.r), .v (.int .i64 x.w), .v (.int .i64 x.e), .v (.int .i64 x.t), .v (.int .i64 x.f)] = WC s ck (updO own i.toNat r.toNat x) ∧ 0 + 13 + i.toNat * 80 + r.toNat * 5 + 5 ≤ (WC s ck own).length := by
  refine ⟨?_, by rw [WC_len]; omega⟩
  unfold WC
  rw [show 0 + 13 + i.toNat * 80 + r.toNat * 5 = 4 + (9 + (i.toNat * 80 + r.toNat * 5)) from by omega, over_behind (n := 4) rfl (by simp [CK_len, OW_len]; omega), over_behind (CK_len ck) (by simp [OW_len]; omega)]
  have h1 := rowsF_set (OW_hf own) (n := 9) (r := i.toNat) (o := r.toNat * 5) (by omega) (l' := x.cells) (by show r.toNat * 5 + 5 ≤ 80; omega)
  have h2 := rowsF_set (TB_hf (own i.toNat)) (n := 16) (r := r.toNat) (o := 0) (by omega) (l' := x.cells) (Nat.le_refl 5)
  have e : (fun k => TB (updO own i.toNat r.toNat x k)) = fun k => if k = i.toNat then over (TB (own i.toNat)) (r.toNat * 5) x.cells else TB (own k) := by
    funext k
    unfold updO
    by_cases e : k = i.toNat
    · simp only [e, if_true]
      unfold TB
      rw [upd_cells]
      exact h2.symm
    · simp only [e, if_false]
  unfold OW
  rw [e]
  exact congrArg (fun z => s.cells ++ (CK ck ++ z)) h1
end
end Go.Proofs.Ytcibmkacgfhnkaa
