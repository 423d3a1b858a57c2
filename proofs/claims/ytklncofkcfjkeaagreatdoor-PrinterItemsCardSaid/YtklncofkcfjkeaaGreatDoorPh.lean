
/- Shapes; texts of units and types. -/
import Derived.Test.YtklncofkcfjkeaaGreatDoorPg
import Derived.Lib.ItoaLen
set_option linter.unusedSimpArgs false
set_option linter.unusedVariables false
set_option maxRecDepth 100000
set_option maxHeartbeats 4000000
namespace Go.Proofs.YtklncofkcfjkeaaGreatDoor
open Go.Sx Go.Proofs
def shape (x : Ex) : Int := if 64 < x.size ∨ 12 < x.depth then 2 else if form false x = true then 0 else 3
theorem shape_ok (x : Ex) (hs : x.size ≤ 100000) : Pure Tryz.prog 31 [.agg x.row] (iv (shape x)) := by
  rw [Ex.row_eq x]
  refine Pure.runk (fun _ => 0) Tryz.func31 comp31 era31 (Nat.le_of_ble_eq_true rfl) fun σ => ?_
  repeat' (first | exact .nil | refine .k0 ?_ | refine .k1 ?_ | refine .k2 ?_ | refine .k3 ?_ | refine .k4 ?_ | refine .k5 ?_ | refine .k6 ?_ | refine .k7 ?_ | refine .k8 ?_ | refine .k9 ?_ | (refine .cd ?_ ?_ <;> first | with_reducible exact tF | with_reducible exact fT | (intro hc; first | exact kf hc (by assumption) | exact kt hc (by assumption) | skip)) | refine .r1 ?_ ?_ | (refine .l1 ?_; intro b) | (refine .m1 ?_ ?_; intro b) | (refine .m2 ?_ ?_; intro hlen) | (refine .m3 ?_ ?_; intro hlen) | refine .t1 ?_ ?_ ?_ | refine .t2 ?_ ?_ ?_ | refine .t3 ?_ ?_ ?_ | refine .t4 ?_ ?_ ?_ | (refine .l2 ?_; intro b) | refine .u1 ?_ ?_ ?_ (fun b u c => ?_) | refine .u2 ?_ ?_ ?_ (fun b u c => ?_) | refine .an rfl (by intro hob; first | (refine (size_ok x (by first | omega | (simp only [BL] at *; omega))).wk ?_; (repeat' first | exact .row | exact .refl _ | exact .nil | refine .cons ?_ ?_ | refine .tup ?_ | refine .agg ?_ | exact .sl | exact .own _); done) | (refine (depth_ok x (by first | omega | (simp only [BL] at *; omega))).wk ?_; (repeat' first | exact .row | exact .refl _ | exact .nil | refine .cons ?_ ?_ | refine .tup ?_ | refine .agg ?_ | exact .sl | exact .own _); done) | (refine (proper_ok x false).wk ?_; (repeat' first | exact .row | exact .refl _ | exact .nil | refine .cons ?_ ?_ | refine .tup ?_ | refine .agg ?_ | exact .sl | exact .own _); done) | (refine (sizeR_ok x (by first | omega | (simp only [BL] at *; omega))).wk ?_; (repeat' first | exact .row | exact .refl _ | exact .nil | refine .cons ?_ ?_ | refine .tup ?_ | refine .agg ?_ | exact .sl | exact .own _); done) | (refine (depthR_ok x (by first | omega | (simp only [BL] at *; omega))).wk ?_; (repeat' first | exact .row | exact .refl _ | exact .nil | refine .cons ?_ ?_ | refine .tup ?_ | refine .agg ?_ | exact .sl | exact .own _); done) | (refine (formR_ok x false).wk ?_; (repeat' first | exact .row | exact .refl _ | exact .nil | refine .cons ?_ ?_ | refine .tup ?_ | refine .agg ?_ | exact .sl | exact .own _); done)) ?_ ?_ | refine .t5 ?_ ?_ ?_ | refine .t6 ?_ ?_ ?_ | refine .t7 ?_ ?_ ?_ | refine .r2 ?_ ?_ | refine .r3 ?_ ?_ | refine .r4 ?_ ?_ | refine .r5 ?_ ?_ | (refine .l3 ?_; intro b) | refine .r6 ?_ ?_ | refine .r7 ?_ ?_ | refine .r8 ?_ ?_ | refine .r9 ?_ ?_ | refine .ra ?_ ?_ | (show List.all _ _ = true; rfl) | (show (_ : Nat) = _; rfl))
  try any_goals ((intro hob; first | (simp_all; done) | (simp only [BL] at *; first | (simp_all; done) | omega)))
  all_goals (try simp only [BL] at *)
  all_goals (refine Sx.Fin.intro (by repeat' first | exact .refl _ | refine .same ?_ | refine .cons ?_) (bi ?_); unfold shape; grind)
theorem shapeR_ok (x : Ex) (hs : x.size ≤ 100000) : Pure Tryz.prog 8 [.agg x.row] (iv (shape x)) := by
  rw [Ex.row_eq x]
  refine Pure.runk (fun _ => 0) Tryz.func8 comp8 era8 (Nat.le_of_ble_eq_true rfl) fun σ => ?_
  repeat' (first | exact .nil | refine .k0 ?_ | refine .k1 ?_ | refine .k2 ?_ | refine .k3 ?_ | refine .k4 ?_ | refine .k5 ?_ | refine .k6 ?_ | refine .k7 ?_ | refine .k8 ?_ | refine .k9 ?_ | (refine .cd ?_ ?_ <;> first | with_reducible exact tF | with_reducible exact fT | (intro hc; first | exact kf hc (by assumption) | exact kt hc (by assumption) | skip)) | refine .r1 ?_ ?_ | (refine .l1 ?_; intro b) | (refine .m1 ?_ ?_; intro b) | (refine .m2 ?_ ?_; intro hlen) | (refine .m3 ?_ ?_; intro hlen) | refine .t1 ?_ ?_ ?_ | refine .t2 ?_ ?_ ?_ | refine .t3 ?_ ?_ ?_ | refine .t4 ?_ ?_ ?_ | (refine .l2 ?_; intro b) | refine .u1 ?_ ?_ ?_ (fun b u c => ?_) | refine .u2 ?_ ?_ ?_ (fun b u c => ?_) | refine .an rfl (by intro hob; first | (refine (size_ok x (by first | omega | (simp only [BL] at *; omega))).wk ?_; (repeat' first | exact .row | exact .refl _ | exact .nil | refine .cons ?_ ?_ | refine .tup ?_ | refine .agg ?_ | exact .sl | exact .own _); done) | (refine (depth_ok x (by first | omega | (simp only [BL] at *; omega))).wk ?_; (repeat' first | exact .row | exact .refl _ | exact .nil | refine .cons ?_ ?_ | refine .tup ?_ | refine .agg ?_ | exact .sl | exact .own _); done) | (refine (proper_ok x false).wk ?_; (repeat' first | exact .row | exact .refl _ | exact .nil | refine .cons ?_ ?_ | refine .tup ?_ | refine .agg ?_ | exact .sl | exact .own _); done) | (refine (sizeR_ok x (by first | omega | (simp only [BL] at *; omega))).wk ?_; (repeat' first | exact .row | exact .refl _ | exact .nil | refine .cons ?_ ?_ | refine .tup ?_ | refine .agg ?_ | exact .sl | exact .own _); done) | (refine (depthR_ok x (by first | omega | (simp only [BL] at *; omega))).wk ?_; (repeat' first | exact .row | exact .refl _ | exact .nil | refine .cons ?_ ?_ | refine .tup ?_ | refine .agg ?_ | exact .sl | exact .own _); done) | (refine (formR_ok x false).wk ?_; (repeat' first | exact .row | exact .refl _ | exact .nil | refine .cons ?_ ?_ | refine .tup ?_ | refine .agg ?_ | exact .sl | exact .own _); done)) ?_ ?_ | refine .t5 ?_ ?_ ?_ | refine .t6 ?_ ?_ ?_ | refine .t7 ?_ ?_ ?_ | refine .r2 ?_ ?_ | refine .r3 ?_ ?_ | refine .r4 ?_ ?_ | refine .r5 ?_ ?_ | (refine .l3 ?_; intro b) | refine .r6 ?_ ?_ | refine .r7 ?_ ?_ | refine .r8 ?_ ?_ | refine .r9 ?_ ?_ | refine .ra ?_ ?_ | (show List.all _ _ = true; rfl) | (show (_ : Nat) = _; rfl))
  try any_goals ((intro hob; first | (simp_all; done) | (simp only [BL] at *; first | (simp_all; done) | omega)))
  all_goals (try simp only [BL] at *)
  all_goals (refine Sx.Fin.intro (by repeat' first | exact .refl _ | refine .same ?_ | refine .cons ?_) (bi ?_); unfold shape; grind)

def strs : List (List AV) → Option (List Str)
  | [] => some []
  | [.v (.string s)] :: l => (strs l).map (s :: ·)
  | _ => none
theorem strs_eq : ∀ {l : List (List AV)} {ws : List Str}, strs l = some ws → l = ws.map strRow
  | [], ws, h => by simp only [strs, Option.some.injEq] at h; subst h; rfl
  | [.v (.string s)] :: l, ws, h => by
    simp only [strs, Option.map_eq_some_iff] at h
    obtain ⟨w, h1, rfl⟩ := h
    rw [strs_eq h1]; rfl
def catS : List Str → Str
  | [] => ⟨#[]⟩
  | s :: l => s ++ catS l
def lenS : List Str → Nat
  | [] => 0
  | s :: l => s.size + lenS l
theorem str_len (s : Str) : s.data.toList.length = s.size := rfl
theorem szl (a : Array UInt8) : (⟨a⟩ : Str).size = a.size := rfl
theorem app_size (a b : Str) : (a ++ b).size = a.size + b.size := by rw [str_size, str_app, List.length_append]; rfl
theorem catS_size : ∀ l : List Str, (catS l).size = lenS l
  | [] => rfl
  | s :: l => by rw [catS, app_size, catS_size l, lenS]
theorem inter_nil : ∀ l : List (List UInt8), ([] : List UInt8).intercalate l = l.flatten
  | [] => rfl
  | [a] => by simp [List.intercalate]
  | a :: b :: l => by
    have := inter_nil (b :: l)
    simp only [List.intercalate, List.intersperse, List.flatten_cons, List.nil_append] at this ⊢
    rw [this]
theorem catS_list : ∀ l : List Str, (catS l).data.toList = (l.map (·.data.toList)).flatten
  | [] => rfl
  | s :: l => by rw [catS, str_app, catS_list l]; rfl
theorem join_list (l : List Str) : Lib.join (l.map (·.data.toList)) (⟨#[]⟩ : Str).data.toList = (catS l).data.toList := by
  rw [catS_list]; exact inter_nil _
theorem joinS_cat (l : List Str) : joinS l ⟨#[]⟩ = catS l := by
  apply str_ext
  unfold joinS
  rw [join_list]
theorem lenS_le : ∀ {l : List Str} {s : Str}, s ∈ l → s.size ≤ lenS l
  | x :: l, s, h => by
    rw [lenS]
    rcases List.mem_cons.1 h with rfl | h
    · omega
    · have := lenS_le h; omega
theorem join_ok (ws : List Str) (nn : Bool) (hN : ws.length ≤ 1000) (hl : lenS ws ≤ 140737488355328) : Pure Tryz.prog 42 [.sl nn 1 (ws.map strRow)] (sv (catS ws)) := by
  refine Pure.runk (fun _ => 0) Tryz.func42 comp42 era42 (Nat.le_of_ble_eq_true rfl) fun σ => ?_
  repeat' (first | exact .nil | refine .k0 ?_ | refine .k1 ?_ | refine .k2 ?_ | refine .k3 ?_ | refine .k4 ?_ | refine .k5 ?_ | refine .k6 ?_ | refine .k7 ?_ | refine .k8 ?_ | refine .k9 ?_ | (refine .cd ?_ ?_ <;> first | with_reducible exact tF | with_reducible exact fT | (intro hc; first | exact kf hc (by assumption) | exact kt hc (by assumption) | skip)) | refine .r1 ?_ ?_ | (refine .l1 ?_; intro b) | (refine .m1 ?_ ?_; intro b) | (refine .m2 ?_ ?_; intro hlen) | (refine .m3 ?_ ?_; intro hlen) | refine .t1 ?_ ?_ ?_ | refine .t2 ?_ ?_ ?_ | refine .t3 ?_ ?_ ?_ | refine .t4 ?_ ?_ ?_ | (refine .l2 ?_; intro b) | refine .u1 ?_ ?_ ?_ (fun b u c => ?_) | refine .u2 ?_ ?_ ?_ (fun b u c => ?_) | refine .an rfl (by intro hob; first | (refine (joinL_ok ws ⟨#[]⟩ nn (by first | omega | (simp only [BL] at *; omega)) (by rw [join_list, ← str_size, catS_size]; omega)).wk ?_; (repeat' first | exact .row | exact .refl _ | exact .nil | refine .cons ?_ ?_ | refine .tup ?_ | refine .agg ?_ | exact .sl | exact .own _); done)) ?_ ?_ | refine .t5 ?_ ?_ ?_ | refine .t6 ?_ ?_ ?_ | refine .t7 ?_ ?_ ?_ | refine .r2 ?_ ?_ | refine .r3 ?_ ?_ | refine .r4 ?_ ?_ | refine .r5 ?_ ?_ | (refine .l3 ?_; intro b) | refine .r6 ?_ ?_ | refine .r7 ?_ ?_ | refine .r8 ?_ ?_ | refine .r9 ?_ ?_ | refine .ra ?_ ?_ | (show List.all _ _ = true; rfl) | (show (_ : Nat) = _; rfl))
  try any_goals ((intro hob; first | (simp_all; done) | (simp only [BL] at *; first | (simp_all; done) | omega)))
  all_goals (try simp only [BL] at *)
  · rw [joinS_cat]
    (refine Sx.Fin.wk (by repeat' first | exact .refl _ | refine .same ?_ | refine .cons ?_) ?_; repeat' first | exact .refl _ | exact .nil | refine .cons ?_ ?_ | refine .tup ?_ | refine .agg ?_ | exact .sl | exact .own _)
theorem join_ok' {nn : Bool} {l : List (List AV)} (ws : List Str) (h : strs l = some ws) (hN : ws.length ≤ 1000) (hl : lenS ws ≤ 140737488355328) : Pure Tryz.prog 42 [.sl nn 1 l] (sv (catS ws)) := by
  rw [strs_eq h]; exact join_ok ws nn hN hl

def facS (f : Fac) : Str := if f.exp = 1 then f.name else f.name ++ (⟨#[94]⟩ ++ itoaS f.exp)
def unitS (u : List Fac) : Str := joinS (u.map facS) ⟨#[42]⟩
theorem itoa_dig {d : Nat} (h : d < 10) : itoaS d = ⟨#[UInt8.ofNat (48 + d)]⟩ := by
  unfold itoaS
  rw [Lib.itoa_nonneg, Lib.decDigits, dif_pos h]
theorem itoa_ndig {d : Nat} (h : d < 10) (h0 : 1 ≤ d) : itoaS (-(d : Int)) = ⟨#[45]⟩ ++ ⟨#[UInt8.ofNat (48 + d)]⟩ := by
  unfold itoaS
  rw [Lib.itoa_neg d h0, Lib.decDigits, dif_pos h]
  rfl
theorem itoa_size (n : Int) (h : -9223372036854775808 ≤ n ∧ n ≤ 9223372036854775807) : (itoaS n).size ≤ 21 := by
  have := Lib.itoa_length_le n h.1 h.2
  rw [str_size]
  simpa [itoaS] using this
theorem digits_ok (n : Int) (h : -9 ≤ n ∧ n ≤ 9) : Pure Tryz.prog 128 [iv n] (sv (itoaS n)) := by
  refine Pure.runk (fun _ => 0) Tryz.func128 comp128 era128 (Nat.le_of_ble_eq_true rfl) fun σ => ?_
  repeat' (first | exact .nil | refine .k0 ?_ | refine .k1 ?_ | refine .k2 ?_ | refine .k3 ?_ | refine .k4 ?_ | refine .k5 ?_ | refine .k6 ?_ | refine .k7 ?_ | refine .k8 ?_ | refine .k9 ?_ | (refine .cd ?_ ?_ <;> first | with_reducible exact tF | with_reducible exact fT | (intro hc; first | exact kf hc (by assumption) | exact kt hc (by assumption) | skip)) | refine .r1 ?_ ?_ | (refine .l1 ?_; intro b) | (refine .m1 ?_ ?_; intro b) | (refine .m2 ?_ ?_; intro hlen) | (refine .m3 ?_ ?_; intro hlen) | refine .t1 ?_ ?_ ?_ | refine .t2 ?_ ?_ ?_ | refine .t3 ?_ ?_ ?_ | refine .t4 ?_ ?_ ?_ | (refine .l2 ?_; intro b) | refine .u1 ?_ ?_ ?_ (fun b u c => ?_) | refine .u2 ?_ ?_ ?_ (fun b u c => ?_) | refine .an rfl (by intro hob; first | fail) ?_ ?_ | refine .t5 ?_ ?_ ?_ | refine .t6 ?_ ?_ ?_ | refine .t7 ?_ ?_ ?_ | refine .r2 ?_ ?_ | refine .r3 ?_ ?_ | refine .r4 ?_ ?_ | refine .r5 ?_ ?_ | (refine .l3 ?_; intro b) | refine .r6 ?_ ?_ | refine .r7 ?_ ?_ | refine .r8 ?_ ?_ | refine .r9 ?_ ?_ | refine .ra ?_ ?_ | (show List.all _ _ = true; rfl) | (show (_ : Nat) = _; rfl))
  try any_goals ((intro hob; first | (simp_all; done) | (simp only [BL] at *; first | (simp_all; done) | omega)))
  all_goals (try simp only [BL] at *)
  · exact Nat.le_of_ble_eq_true rfl
  · exact Nat.le_of_ble_eq_true rfl
  · obtain ⟨d, rfl⟩ : ∃ d : Nat, n = -(d : Int) := ⟨n.natAbs, by omega⟩
    rw [i64w (by omega), itoa_ndig (by omega) (by omega)]
    refine Sx.Fin.intro (by repeat' first | exact .refl _ | refine .same ?_ | refine .cons ?_) ?_
    have : IntKind.u8.wrap (48 - -(d : Int)) = ((48 + d : Nat) : Int) := by
      rw [Go.IntWalk.u8_in _ (by omega)]; omega
    rw [this]; rfl
  · exact Nat.le_of_ble_eq_true rfl
  · obtain ⟨d, rfl⟩ : ∃ d : Nat, n = (d : Int) := ⟨n.toNat, by omega⟩
    rw [i64w (by omega), itoa_dig (by omega)]
    refine Sx.Fin.intro (by repeat' first | exact .refl _ | refine .same ?_ | refine .cons ?_) ?_
    have : IntKind.u8.wrap (48 + (d : Int)) = ((48 + d : Nat) : Int) := by
      rw [Go.IntWalk.u8_in _ (by omega)]; omega
    rw [this]; rfl
  · omega
  · omega
theorem take_snoc {α : Type} [Inhabited α] {l : List α} {i : Nat} (h : i < l.length) : l.take (i + 1) = l.take i ++ [l.getD i default] := by
  rw [getD_eq h, List.take_succ_eq_append_getElem h]
theorem inter_len (sep : List UInt8) : ∀ l : List (List UInt8), (sep.intercalate l).length ≤ l.flatten.length + l.length * sep.length
  | [] => by simp [List.intercalate]
  | [a] => by simp [List.intercalate]
  | a :: b :: l => by
    have := inter_len sep (b :: l)
    simp only [List.intercalate, List.intersperse, List.flatten_cons, List.length_append, List.length_cons, Nat.add_mul, Nat.one_mul] at this ⊢
    omega
theorem join_len (ws : List Str) (sep : Str) : (Lib.join (ws.map (·.data.toList)) sep.data.toList).length ≤ lenS ws + ws.length * sep.size := by
  have := inter_len sep.data.toList (ws.map (·.data.toList))
  rw [← catS_list, ← str_size, catS_size, List.length_map] at this
  exact this
theorem lenS_map {α : Type} (g : α → Str) (c : Nat) : ∀ {l : List α}, (∀ x ∈ l, (g x).size ≤ c) → lenS (l.map g) ≤ l.length * c
  | [], _ => Nat.zero_le _
  | x :: l, h => by
    have h1 := h x (by simp)
    have h2 := lenS_map g c (l := l) fun y hy => h y (by simp [hy])
    simp only [List.map_cons, lenS, List.length_cons, Nat.add_mul, Nat.one_mul]
    omega
def FacOK (f : Fac) : Prop := f.name.size ≤ 24 ∧ -8 ≤ f.exp ∧ f.exp ≤ 8 ∧ 1 ≤ f.name.size
theorem facS_size {f : Fac} (h : FacOK f) : (facS f).size ≤ 46 := by
  unfold facS
  have := itoa_size f.exp (by have := h.2; omega)
  have := h.1
  split
  · omega
  · rw [app_size, app_size]; show _ + (1 + _) ≤ _; omega
theorem unit_len {u : List Fac} (hu : ∀ f ∈ u, FacOK f) (hl : u.length ≤ 4) : (Lib.join ((u.map facS).map (·.data.toList)) (⟨#[42]⟩ : Str).data.toList).length ≤ 200 := by
  have h1 := join_len (u.map facS) ⟨#[42]⟩
  have h2 := lenS_map facS 46 fun f hf => facS_size (hu f hf)
  have h3 : (⟨#[42]⟩ : Str).size = 1 := rfl
  rw [List.length_map, h3] at h1
  omega
theorem unitS_size {u : List Fac} (hu : ∀ f ∈ u, FacOK f) (hl : u.length ≤ 4) : (unitS u).size ≤ 200 := unit_len hu hl
theorem rows_step {fs : List Fac} {i : Nat} (h : i < fs.length) : ((fs.take i).map facS).map strRow ++ [[.v (.string (facS (fs.getD i default)))]] = ((fs.take (i + 1)).map facS).map strRow := by
  rw [take_snoc h]; simp [strRow]
theorem facS_1 {f : Fac} (h : f.exp = 1) : facS f = f.name := if_pos h
theorem facS_n {f : Fac} (h : ¬ f.exp = 1) : facS f = f.name ++ (⟨#[94]⟩ ++ itoaS f.exp) := if_neg h
theorem unitF_ok (fs : List Fac) (hu : ∀ f ∈ fs, FacOK f) (hl : fs.length ≤ 4) : Pure Tryz.prog 103 [.sl false 2 (fs.map Fac.cells)] (sv (unitS fs)) := by
  refine Pure.runk (fun _ => 0) Tryz.func103 comp103 era103 (Nat.le_of_ble_eq_true rfl) fun σ => ?_
  repeat' (first | exact .nil | refine .k0 ?_ | refine .k1 ?_ | refine .k2 ?_ | refine .k3 ?_ | refine .k4 ?_ | refine .k5 ?_ | refine .k6 ?_ | refine .k7 ?_ | refine .k8 ?_ | refine .k9 ?_ | (refine .cd ?_ ?_ <;> first | with_reducible exact tF | with_reducible exact fT | (intro hc; first | exact kf hc (by assumption) | exact kt hc (by assumption) | skip)) | refine .r1 ?_ ?_ | (refine .l1 ?_; intro b) | (refine .m1 ?_ ?_; intro b) | (refine .m2 ?_ ?_; intro hlen) | (refine .m3 ?_ ?_; intro hlen) | refine .t1 ?_ ?_ ?_ | refine .t2 ?_ ?_ ?_ | refine .t3 ?_ ?_ ?_ | refine .t4 ?_ ?_ ?_ | (refine .l2 ?_; intro b) | refine .u1 ?_ ?_ ?_ (fun b u c => ?_) | refine .u2 ?_ ?_ ?_ (fun b u c => ?_) | refine .an rfl (by intro hob; first | exact itoa_ok _ (by first | omega | (simp only [BL] at *; omega)) | (refine (joinL_ok [] ⟨#[42]⟩ false (by decide) (by decide)).wk ?_; (repeat' first | exact .row | exact .refl _ | exact .nil | refine .cons ?_ ?_ | refine .tup ?_ | refine .agg ?_ | exact .sl | exact .own _); done) | (refine (joinL_ok (fs.map facS) ⟨#[42]⟩ false (by rw [List.length_map]; omega) (Nat.le_trans (unit_len hu hl) (by decide))).wk (WkL.cons (Wk.ownr (by rw [List.take_of_length_le (by first | omega | (simp only [BL] at *; omega))])) (WkL.cons (Wk.refl _) WkL.nil)))) ?_ ?_ | refine .t5 ?_ ?_ ?_ | refine .t6 ?_ ?_ ?_ | refine .t7 ?_ ?_ ?_ | refine .r2 ?_ ?_ | refine .r3 ?_ ?_ | refine .r4 ?_ ?_ | refine .r5 ?_ ?_ | (refine .l3 ?_; intro b) | refine .r6 ?_ ?_ | refine .r7 ?_ ?_ | refine .r8 ?_ ?_ | refine .r9 ?_ ?_ | refine .ra ?_ ?_ | (show List.all _ _ = true; rfl) | (show (_ : Nat) = _; rfl))
  try any_goals ((intro hob; first | (simp_all; done) | (simp only [BL] at *; first | (simp_all; done) | omega)))
  all_goals (try simp only [BL] at *)
  refine WK_loop (fun n rg σ' => ∃ i : Nat, i ≤ fs.length ∧ n = fs.length - i ∧ ((i = 0 ∧ σ' = σ ∧ rg = [(3, .v (.slice none 0 0)), (7, .sl false 2 (fs.map Fac.cells)), (8, iv fs.length), (9, iv i)]) ∨ (0 < i ∧ ∃ b v c, σ' = (27, b, .tail v c) :: σ ∧ rg = [(3, .own 1 27 b v c (((fs.take i).map facS).map strRow)), (7, .sl false 2 (fs.map Fac.cells)), (8, iv fs.length), (9, iv i)]))) fs.length rfl ⟨_, _, by repeat' first | exact .row | exact .refl _ | exact .nil | refine .cons ?_ ?_ | refine .tup ?_ | refine .agg ?_ | exact .sl | exact .own _ | exact .tag, by repeat' first | exact .refl _ | refine .same ?_ | refine .cons ?_, 0, Nat.zero_le _, rfl, .inl ⟨rfl, rfl, rfl⟩⟩ ?_
  rintro n _ _ ⟨i, hi, hn, ⟨h0, rfl, rfl⟩ | ⟨h0, b0, v0, c0, rfl, rfl⟩⟩
  all_goals have hf : i < fs.length → FacOK (fs.getD i default) := fun h => hu _ (getD_mem h)
  all_goals have hz : i < fs.length → (itoaS (fs.getD i default).exp).size ≤ 21 := fun h => itoa_size _ (by have := (hf h).2; omega)
  all_goals unfold FacOK at hf
  repeat' (first | exact .nil | refine .k0 ?_ | refine .k1 ?_ | refine .k2 ?_ | refine .k3 ?_ | refine .k4 ?_ | refine .k5 ?_ | refine .k6 ?_ | refine .k7 ?_ | refine .k8 ?_ | refine .k9 ?_ | (refine .cd ?_ ?_ <;> first | with_reducible exact tF | with_reducible exact fT | (intro hc; first | exact kf hc (by assumption) | exact kt hc (by assumption) | skip)) | refine .r1 ?_ ?_ | (refine .l1 ?_; intro b) | (refine .m1 ?_ ?_; intro b) | (refine .m2 ?_ ?_; intro hlen) | (refine .m3 ?_ ?_; intro hlen) | refine .t1 ?_ ?_ ?_ | refine .t2 ?_ ?_ ?_ | refine .t3 ?_ ?_ ?_ | refine .t4 ?_ ?_ ?_ | (refine .l2 ?_; intro b) | refine .u1 ?_ ?_ ?_ (fun b u c => ?_) | refine .u2 ?_ ?_ ?_ (fun b u c => ?_) | refine .an rfl (by intro hob; first | exact itoa_ok _ (by first | omega | (simp only [BL] at *; omega)) | (refine (joinL_ok [] ⟨#[42]⟩ false (by decide) (by decide)).wk ?_; (repeat' first | exact .row | exact .refl _ | exact .nil | refine .cons ?_ ?_ | refine .tup ?_ | refine .agg ?_ | exact .sl | exact .own _); done) | (refine (joinL_ok (fs.map facS) ⟨#[42]⟩ false (by rw [List.length_map]; omega) (Nat.le_trans (unit_len hu hl) (by decide))).wk (WkL.cons (Wk.ownr (by rw [List.take_of_length_le (by first | omega | (simp only [BL] at *; omega))])) (WkL.cons (Wk.refl _) WkL.nil)))) ?_ ?_ | refine .t5 ?_ ?_ ?_ | refine .t6 ?_ ?_ ?_ | refine .t7 ?_ ?_ ?_ | refine .r2 ?_ ?_ | refine .r3 ?_ ?_ | refine .r4 ?_ ?_ | refine .r5 ?_ ?_ | (refine .l3 ?_; intro b) | refine .r6 ?_ ?_ | refine .r7 ?_ ?_ | refine .r8 ?_ ?_ | refine .r9 ?_ ?_ | refine .ra ?_ ?_ | (show List.all _ _ = true; rfl) | (show (_ : Nat) = _; rfl))
  try any_goals ((intro hob; first | (simp_all; done) | (simp only [BL] at *; first | (simp_all; done) | omega)))
  all_goals (try simp only [BL] at *)
  any_goals (first | omega | (simp only [List.length_cons, List.length_nil, List.length_append, List.length_map, List.length_take, app_size, szl, str_len, List.size_toArray]; omega))
  all_goals have e := fun h => rows_step (fs := fs) (i := i) h
  · subst h0
    rw [facS_n hc] at e
    refine ⟨fs.length - (0 + 1), by omega, _, _, by repeat' first | exact .row | exact .refl _ | exact .nil | refine .cons ?_ ?_ | refine .tup ?_ | refine .agg ?_ | exact .sl | exact .own _ | exact .tag, by repeat' first | exact .refl _ | refine .same ?_ | refine .cons ?_, 0 + 1, by omega, rfl, .inr ⟨by omega, _, _, _, rfl, ?_⟩⟩
    rw [← e (by omega), up1 (n := fs.length) (by omega) (by assumption)]; rfl
  · subst h0
    rw [facS_1 hc] at e
    refine ⟨fs.length - (0 + 1), by omega, _, _, by repeat' first | exact .row | exact .refl _ | exact .nil | refine .cons ?_ ?_ | refine .tup ?_ | refine .agg ?_ | exact .sl | exact .own _ | exact .tag, by repeat' first | exact .refl _ | refine .same ?_ | refine .cons ?_, 0 + 1, by omega, rfl, .inr ⟨by omega, _, _, _, rfl, ?_⟩⟩
    rw [← e (by omega), up1 (n := fs.length) (by omega) (by assumption)]; rfl
  · obtain rfl : fs = [] := List.eq_nil_of_length_eq_zero (by omega)
    exact Sx.Fin.intro (by repeat' first | exact .refl _ | refine .same ?_ | refine .cons ?_) rfl
  · rw [facS_n hc] at e
    refine ⟨fs.length - (i + 1), by omega, _, _, by repeat' first | exact .row | exact .refl _ | exact .nil | refine .cons ?_ ?_ | refine .tup ?_ | refine .agg ?_ | exact .sl | exact .own _ | exact .tag, by repeat' first | exact .refl _ | refine .same ?_ | refine .cons ?_, i + 1, by omega, rfl, .inr ⟨by omega, _, _, _, rfl, ?_⟩⟩
    rw [← e (by omega), up1 (n := fs.length) (by omega) (by assumption)]
  · rw [facS_1 hc] at e
    refine ⟨fs.length - (i + 1), by omega, _, _, by repeat' first | exact .row | exact .refl _ | exact .nil | refine .cons ?_ ?_ | refine .tup ?_ | refine .agg ?_ | exact .sl | exact .own _ | exact .tag, by repeat' first | exact .refl _ | refine .same ?_ | refine .cons ?_, i + 1, by omega, rfl, .inr ⟨by omega, _, _, _, rfl, ?_⟩⟩
    rw [← e (by omega), up1 (n := fs.length) (by omega) (by assumption)]
  · exact Sx.Fin.intro (by repeat' first | exact .refl _ | refine .same ?_ | refine .cons ?_) rfl
theorem inter_snoc (sep a : List UInt8) : ∀ l : List (List UInt8), l ≠ [] → sep.intercalate (l ++ [a]) = sep.intercalate l ++ (sep ++ a)
  | [], h => absurd rfl h
  | [b], _ => by simp [List.intercalate]
  | b :: c :: l, _ => by
    have := inter_snoc sep a (c :: l) (by simp)
    simp only [List.intercalate, List.intersperse, List.flatten_cons, List.cons_append, List.append_assoc] at this ⊢
    rw [this]
theorem unitS_list (fs : List Fac) : (unitS fs).data.toList = [42].intercalate (fs.map fun f => (facS f).data.toList) := by
  show Lib.join ((fs.map facS).map (·.data.toList)) [42] = _
  rw [List.map_map]; rfl
theorem unitS_snoc {fs : List Fac} {i : Nat} (h : i < fs.length) (h0 : 0 < i) : (unitS (fs.take (i + 1))).data.toList = (unitS (fs.take i)).data.toList ++ ([42] ++ (facS (fs.getD i default)).data.toList) := by
  rw [unitS_list, unitS_list, take_snoc h, List.map_append, List.map_cons, List.map_nil]
  refine inter_snoc _ _ _ fun e => ?_
  have := congrArg List.length e
  simp only [List.length_map, List.length_take, List.length_nil] at this
  omega
theorem unitS_one {fs : List Fac} (h : 0 < fs.length) : (unitS (fs.take (0 + 1))).data.toList = (facS (fs.getD 0 default)).data.toList := by
  rw [unitS_list, take_snoc h]
  simp [List.intercalate]
def bR (s : Str) : List (List AV) := s.data.toList.map byteRow
theorem bR_app (a b : Str) : bR (a ++ b) = bR a ++ bR b := by unfold bR; rw [str_app, List.map_append]
theorem bR_snoc {fs : List Fac} {i : Nat} (h : i < fs.length) (h0 : 0 < i) : bR (unitS (fs.take (i + 1))) = bR (unitS (fs.take i)) ++ [[.v (.int .u8 42)]] ++ bR (facS (fs.getD i default)) := by
  show List.map _ _ = _
  rw [unitS_snoc h h0, List.map_append, List.map_append, List.append_assoc]; rfl
theorem bR_one {fs : List Fac} (h : 0 < fs.length) : bR (unitS (fs.take (0 + 1))) = bR (facS (fs.getD 0 default)) := congrArg (List.map byteRow) (unitS_one h)
theorem bR_n {f : Fac} (h : ¬ f.exp = 1) : bR (facS f) = bR f.name ++ [[.v (.int .u8 94)]] ++ bR (itoaS f.exp) := by
  rw [facS_n h, bR_app, bR_app, List.append_assoc]; rfl
theorem ones_map (l : List UInt8) : ((l.map byteRow).all fun r => r.all AV.one) = true := by
  rw [List.all_map]; exact List.all_eq_true.2 fun _ _ => rfl
theorem bR_ne {s : Str} (h : 1 ≤ s.size) : s.data.toList.map byteRow ≠ [] := fun e => by
  have := congrArg List.length e
  rw [List.length_map] at this
  have h2 : s.size = 0 := this
  omega
theorem unitFR_ok (fs : List Fac) (hu : ∀ f ∈ fs, FacOK f) (hl : fs.length ≤ 4) : Pure Tryz.prog 106 [.sl false 2 (fs.map Fac.cells)] (sv (unitS fs)) := by
  refine Pure.runk (fun _ => 0) Tryz.func106 comp106 era106 (Nat.le_of_ble_eq_true rfl) fun σ => ?_
  repeat' (first | exact .nil | refine .k0 ?_ | refine .k1 ?_ | refine .k2 ?_ | refine .k3 ?_ | refine .k4 ?_ | refine .k5 ?_ | refine .k6 ?_ | refine .k7 ?_ | refine .k8 ?_ | refine .k9 ?_ | (refine .cd ?_ ?_ <;> first | with_reducible exact tF | with_reducible exact fT | (intro hc; first | exact kf hc (by assumption) | exact kt hc (by assumption) | skip)) | refine .r1 ?_ ?_ | (refine .l1 ?_; intro b) | (refine .m1 ?_ ?_; intro b) | (refine .m2 ?_ ?_; intro hlen) | (refine .m3 ?_ ?_; intro hlen) | refine .t1 ?_ ?_ ?_ | refine .t2 ?_ ?_ ?_ | refine .t3 ?_ ?_ ?_ | refine .t4 ?_ ?_ ?_ | (refine .l2 ?_; intro b) | refine .u1 ?_ ?_ ?_ (fun b u c => ?_) | refine .u2 ?_ ?_ ?_ (fun b u c => ?_) | refine .an rfl (by intro hob; first | exact digits_ok _ (by first | omega | (simp only [BL] at *; omega))) ?_ ?_ | refine .t5 ?_ ?_ ?_ | refine .t6 ?_ ?_ ?_ | refine .t7 ?_ ?_ ?_ | refine .r2 ?_ ?_ | refine .r3 ?_ ?_ | refine .r4 ?_ ?_ | refine .r5 ?_ ?_ | (refine .l3 ?_; intro b) | refine .r6 ?_ ?_ | refine .r7 ?_ ?_ | refine .r8 ?_ ?_ | refine .r9 ?_ ?_ | refine .ra ?_ ?_ | (show List.all _ _ = true; rfl) | (show (_ : Nat) = _; rfl))
  try any_goals ((intro hob; first | (simp_all; done) | (simp only [BL] at *; first | (simp_all; done) | omega)))
  all_goals (try simp only [BL] at *)
  refine WK_loop (fun n rg σ' => ∃ i : Nat, i ≤ fs.length ∧ n = fs.length - i ∧ ((i = 0 ∧ σ' = σ ∧ rg = [(0, .sl false 2 (fs.map Fac.cells)), (3, .v (.slice none 0 0)), (4, iv i)]) ∨ (0 < i ∧ ∃ b v c, σ' = (22, b, .tail v c) :: σ ∧ rg = [(0, .sl false 2 (fs.map Fac.cells)), (3, .own 1 22 b v c ((unitS (fs.take i)).data.toList.map byteRow)), (4, iv i)]))) fs.length rfl ⟨_, _, by repeat' first | exact .row | exact .refl _ | exact .nil | refine .cons ?_ ?_ | refine .tup ?_ | refine .agg ?_ | exact .sl | exact .own _ | exact .tag, by repeat' first | exact .refl _ | refine .same ?_ | refine .cons ?_, 0, Nat.zero_le _, rfl, .inl ⟨rfl, rfl, rfl⟩⟩ ?_
  rintro n _ _ ⟨i, hi, hn, ⟨h0, rfl, rfl⟩ | ⟨h0, b0, v0, c0, rfl, rfl⟩⟩
  all_goals have hf : i < fs.length → FacOK (fs.getD i default) := fun h => hu _ (getD_mem h)
  all_goals have hz : i < fs.length → (itoaS (fs.getD i default).exp).size ≤ 21 := fun h => itoa_size _ (by have := (hf h).2; omega)
  all_goals have hs := unitS_size (u := fs.take i) (fun f hf => hu f (List.mem_of_mem_take hf)) (by rw [List.length_take]; omega)
  all_goals unfold FacOK at hf
  repeat' (first | exact .nil | refine .k0 ?_ | refine .k1 ?_ | refine .k2 ?_ | refine .k3 ?_ | refine .k4 ?_ | refine .k5 ?_ | refine .k6 ?_ | refine .k7 ?_ | refine .k8 ?_ | refine .k9 ?_ | (refine .cd ?_ ?_ <;> first | with_reducible exact tF | with_reducible exact fT | (intro hc; first | exact kf hc (by assumption) | exact kt hc (by assumption) | skip)) | refine .r1 ?_ ?_ | (refine .l1 ?_; intro b) | (refine .m1 ?_ ?_; intro b) | (refine .m2 ?_ ?_; intro hlen) | (refine .m3 ?_ ?_; intro hlen) | refine .t1 ?_ ?_ ?_ | refine .t2 ?_ ?_ ?_ | refine .t3 ?_ ?_ ?_ | refine .t4 ?_ ?_ ?_ | (refine .l2 ?_; intro b) | refine .u1 ?_ ?_ ?_ (fun b u c => ?_) | refine .u2 ?_ ?_ ?_ (fun b u c => ?_) | refine .an rfl (by intro hob; first | exact digits_ok _ (by first | omega | (simp only [BL] at *; omega))) ?_ ?_ | refine .t5 ?_ ?_ ?_ | refine .t6 ?_ ?_ ?_ | refine .t7 ?_ ?_ ?_ | refine .r2 ?_ ?_ | refine .r3 ?_ ?_ | refine .r4 ?_ ?_ | refine .r5 ?_ ?_ | (refine .l3 ?_; intro b) | refine .r6 ?_ ?_ | refine .r7 ?_ ?_ | refine .r8 ?_ ?_ | refine .r9 ?_ ?_ | refine .ra ?_ ?_ | (show List.all _ _ = true; rfl) | (show (_ : Nat) = _; rfl))
  try any_goals ((intro hob; first | (simp_all; done) | (simp only [BL] at *; first | (simp_all; done) | omega)))
  all_goals (try simp only [BL] at *)
  all_goals try (exfalso; omega)
  any_goals (first | omega | (simp only [List.length_cons, List.length_nil, List.length_append, List.length_map, List.length_take, app_size, szl, str_len, List.size_toArray]; omega))
  any_goals exact ones_map _
  any_goals exact bR_ne (by have := hf (by omega); omega)
  · subst h0
    refine ⟨fs.length - (0 + 1), by omega, _, _, by repeat' first | exact .row | exact .refl _ | exact .nil | refine .cons ?_ ?_ | refine .tup ?_ | refine .agg ?_ | exact .sl | exact .own _ | exact .tag, by repeat' first | exact .refl _ | refine .same ?_ | refine .cons ?_, 0 + 1, by omega, rfl, .inr ⟨by omega, _, _, _, rfl, ?_⟩⟩
    show _ = [_, (3, AV.own 1 22 _ _ _ (bR (unitS (fs.take (0 + 1))))), _]
    rw [bR_one (by omega), bR_n hc, up1 (n := fs.length) (by omega) (by assumption)]; rfl
  · subst h0
    refine ⟨fs.length - (0 + 1), by omega, _, _, by repeat' first | exact .row | exact .refl _ | exact .nil | refine .cons ?_ ?_ | refine .tup ?_ | refine .agg ?_ | exact .sl | exact .own _ | exact .tag, by repeat' first | exact .refl _ | refine .same ?_ | refine .cons ?_, 0 + 1, by omega, rfl, .inr ⟨by omega, _, _, _, rfl, ?_⟩⟩
    show _ = [_, (3, AV.own 1 22 _ _ _ (bR (unitS (fs.take (0 + 1))))), _]
    rw [bR_one (by omega), facS_1 hc, up1 (n := fs.length) (by omega) (by assumption)]; rfl
  · obtain rfl : fs = [] := List.eq_nil_of_length_eq_zero (by omega)
    exact Sx.Fin.intro (by repeat' first | exact .refl _ | refine .same ?_ | refine .cons ?_) rfl
  · refine ⟨fs.length - (i + 1), by omega, _, _, by repeat' first | exact .row | exact .refl _ | exact .nil | refine .cons ?_ ?_ | refine .tup ?_ | refine .agg ?_ | exact .sl | exact .own _ | exact .tag, by repeat' first | exact .refl _ | refine .same ?_ | refine .cons ?_, i + 1, by omega, rfl, .inr ⟨by omega, _, _, _, rfl, ?_⟩⟩
    show _ = [_, (3, AV.own 1 22 _ _ _ (bR (unitS (fs.take (i + 1))))), _]
    rw [bR_snoc (by omega) (by assumption), bR_n hc, up1 (n := fs.length) (by omega) (by assumption)]
    simp only [bR, List.append_assoc]
  · refine ⟨fs.length - (i + 1), by omega, _, _, by repeat' first | exact .row | exact .refl _ | exact .nil | refine .cons ?_ ?_ | refine .tup ?_ | refine .agg ?_ | exact .sl | exact .own _ | exact .tag, by repeat' first | exact .refl _ | refine .same ?_ | refine .cons ?_, i + 1, by omega, rfl, .inr ⟨by omega, _, _, _, rfl, ?_⟩⟩
    show _ = [_, (3, AV.own 1 22 _ _ _ (bR (unitS (fs.take (i + 1))))), _]
    rw [bR_snoc (by omega) (by assumption), facS_1 hc, up1 (n := fs.length) (by omega) (by assumption)]
    rfl
  · rw [List.take_of_length_le (by omega)]
    exact Sx.Fin.intro (by repeat' first | exact .refl _ | refine .same ?_ | refine .cons ?_) rfl
end Go.Proofs.YtklncofkcfjkeaaGreatDoor
