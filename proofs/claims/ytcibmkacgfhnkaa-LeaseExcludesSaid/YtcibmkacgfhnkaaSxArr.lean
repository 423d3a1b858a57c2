/-
  The layer Sx, twenty-third part: blocks of rows of one length (arrays).
-/
import Derived.Test.YtcibmkacgfhnkaaSxX4
namespace Go.Sx
open Go.RowKit

theorem over_get {α : Type} (l : List α) (o : Nat) (l' : List α) (h : o + l'.length ≤ l.length) (p : Nat) : (over l o l')[p]? = if p < o then l[p]? else if p < o + l'.length then l'[p - o]? else l[p]? := by
  unfold over
  by_cases h1 : p < o
  · rw [if_pos h1, List.append_assoc, List.getElem?_append_left (by simp; omega), List.getElem?_take, if_pos h1]
  · rw [if_neg h1]
    by_cases h2 : p < o + l'.length
    · rw [if_pos h2, List.getElem?_append_left (by simp; omega), List.getElem?_append_right (by simp; omega)]
      congr 1
      simp; omega
    · rw [if_neg h2, List.getElem?_append_right (by simp; omega), List.getElem?_drop]
      congr 1
      simp; omega

/-- n rows, each of m cells. -/
def rowsF (n m : Nat) (f : Nat → List AV) : List AV := (List.range n).flatMap f

theorem rowsF_len {m : Nat} {f : Nat → List AV} (hf : ∀ k, (f k).length = m) : ∀ n, (rowsF n m f).length = n * m
  | 0 => by simp [rowsF]
  | n + 1 => by
    have := rowsF_len hf n
    unfold rowsF at this ⊢
    rw [List.range_succ, List.flatMap_append, List.length_append, this, Nat.succ_mul]
    simp [hf]
theorem rowsF_get {m : Nat} {f : Nat → List AV} (hf : ∀ k, (f k).length = m) : ∀ {n r j : Nat}, r < n → j < m → (rowsF n m f)[r * m + j]? = (f r)[j]?
  | 0, r, j, h, _ => by omega
  | n + 1, r, j, h, hj => by
    have hl := rowsF_len hf n
    have ih : ∀ r, r < n → (rowsF n m f)[r * m + j]? = (f r)[j]? := fun r hr => rowsF_get hf hr hj
    unfold rowsF at hl ih ⊢
    rw [List.range_succ, List.flatMap_append]
    by_cases hr : r < n
    · have : r * m + j < n * m := mul_lt_of hr hj
      rw [List.getElem?_append_left (by rw [hl]; exact this)]
      exact ih r hr
    · have hr : r = n := by omega
      subst hr
      rw [List.getElem?_append_right (by rw [hl]; omega), hl, Nat.add_sub_cancel_left]
      simp
theorem rowsF_row {m : Nat} {f : Nat → List AV} (hf : ∀ k, (f k).length = m) {n r : Nat} (h : r < n) : ((rowsF n m f).drop (r * m)).take m = f r := by
  apply List.ext_getElem?
  intro j
  by_cases hj : j < m
  · rw [List.getElem?_take, if_pos hj, List.getElem?_drop, rowsF_get hf h hj]
  · rw [List.getElem?_take, if_neg hj, List.getElem?_eq_none (by rw [hf]; omega)]
theorem rowsF_set {m : Nat} {f : Nat → List AV} (hf : ∀ k, (f k).length = m) {n r o : Nat} (h : r < n) {l' : List AV} (ho : o + l'.length ≤ m) :
    over (rowsF n m f) (r * m + o) l' = rowsF n m (fun k => if k = r then over (f r) o l' else f k) := by
  have hf' : ∀ k, (if k = r then over (f r) o l' else f k).length = m := fun k => by split; rw [over_len _ _ _ (by rw [hf]; exact ho), hf]; exact hf k
  have hl := rowsF_len hf n
  have hl' := rowsF_len hf' n
  have hb : r * m + o + l'.length ≤ n * m := by
    have : (r + 1) * m ≤ n * m := Nat.mul_le_mul_right _ h
    rw [Nat.succ_mul] at this
    omega
  apply List.ext_getElem?
  intro p
  by_cases hp : p < n * m
  · have hm : 0 < m := by
      rcases Nat.eq_zero_or_pos m with h0 | h0
      · subst h0; simp at hp
      · exact h0
    have e : p = p / m * m + p % m := by rw [Nat.mul_comm]; exact (Nat.div_add_mod _ _).symm
    have hd : p / m < n := Nat.div_lt_of_lt_mul (by rw [Nat.mul_comm]; exact hp)
    have hj : p % m < m := Nat.mod_lt _ hm
    rw [over_get _ _ _ (by rw [hl]; exact hb)]
    generalize p / m = q at *
    generalize p % m = j at *
    subst e
    rw [rowsF_get hf' hd hj, rowsF_get hf hd hj]
    by_cases hq : q = r
    · subst hq
      simp only [if_true]
      rw [over_get _ _ _ (by rw [hf]; exact ho)]
      by_cases h1 : j < o
      · rw [if_pos (by omega), if_pos h1]
      · rw [if_neg (by omega), if_neg h1]
        by_cases h2 : j < o + l'.length
        · rw [if_pos (by omega), if_pos h2]; congr 1; omega
        · rw [if_neg (by omega), if_neg h2]
    · rw [if_neg hq]
      rcases Nat.lt_or_ge q r with h1 | h1
      · have : q * m + j < r * m := mul_lt_of h1 hj
        rw [if_pos (by omega)]
      · have : (r + 1) * m ≤ q * m := Nat.mul_le_mul_right _ (by omega)
        rw [Nat.succ_mul] at this
        rw [if_neg (by omega), if_neg (by omega)]
  · rw [List.getElem?_eq_none (by rw [over_len _ _ _ (by rw [hl]; exact hb), hl]; omega), List.getElem?_eq_none (by rw [hl']; omega)]
theorem over_all {α : Type} {l l' : List α} (h : l.length = l'.length) : over l 0 l' = l' := by
  unfold over; simp [← h]

-- a list in front, a list behind
theorem get_behind {α : Type} {a b : List α} {n o : Nat} (h : a.length = n) : (a ++ b)[n + o]? = b[o]? := by
  subst h; rw [List.getElem?_append_right (by omega), Nat.add_sub_cancel_left]
theorem get_front {α : Type} {a b : List α} {o : Nat} (h : o < a.length) : (a ++ b)[o]? = a[o]? := List.getElem?_append_left h
theorem row_behind {α : Type} {a b : List α} {n o m : Nat} (h : a.length = n) : ((a ++ b).drop (n + o)).take m = (b.drop o).take m := by
  subst h; rw [List.drop_append, List.drop_of_length_le (by omega), List.nil_append, Nat.add_sub_cancel_left]
theorem row_front {α : Type} {a b : List α} {o m : Nat} (h : o + m ≤ a.length) : ((a ++ b).drop o).take m = (a.drop o).take m := by
  rw [List.drop_append_of_le_length (by omega), List.take_append_of_le_length (by simp; omega)]
theorem over_behind {α : Type} {a b l' : List α} {n o : Nat} (h : a.length = n) (hb : o + l'.length ≤ b.length) : over (a ++ b) (n + o) l' = a ++ over b o l' := by
  subst h
  unfold over
  rw [List.take_append, List.take_of_length_le (by omega), Nat.add_sub_cancel_left, List.drop_append, List.drop_of_length_le (by omega), List.nil_append]
  simp only [List.append_assoc]
  congr 3
  congr 1
  omega
theorem over_front {α : Type} {a b l' : List α} {o : Nat} (h : o + l'.length ≤ a.length) : over (a ++ b) o l' = over a o l' ++ b := by
  unfold over
  rw [List.take_append_of_le_length (by omega), List.drop_append_of_le_length h]
  simp only [List.append_assoc]
end Go.Sx
