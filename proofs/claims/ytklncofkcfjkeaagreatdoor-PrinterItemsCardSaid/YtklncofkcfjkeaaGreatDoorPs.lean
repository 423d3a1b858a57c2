
/- Features; what is few. -/
import Derived.Test.YtklncofkcfjkeaaGreatDoorPr
set_option linter.unusedSimpArgs false
set_option linter.unusedVariables false
set_option maxRecDepth 100000
set_option maxHeartbeats 4000000
namespace Go.Proofs.YtklncofkcfjkeaaGreatDoor
open Go.Sx Go.Proofs
def feaErr (f : Fea) : Int := if ¬ Name f.name ∨ ¬ Name f.entity then 3 else if tyErr f.type ≠ 0 then tyErr f.type else shape f.body
def feaT (f : Fea) : Str := ⟨#[102, 101, 97, 116, 117, 114, 101, 32]⟩ ++ (f.name ++ (⟨#[32, 111, 102, 32]⟩ ++ (f.entity ++ (⟨#[58, 32]⟩ ++ (tyS f.type ++ (⟨#[32, 61, 32]⟩ ++ (text f.body ++ ⟨#[59]⟩)))))))
def feaS (f : Fea) : Str := if feaErr f = 0 then feaT f else ⟨#[]⟩
theorem fea_3 {f : Fea} (h : ¬ Name f.name ∨ ¬ Name f.entity) : feaErr f = 3 := if_pos h
theorem fea_t {f : Fea} (h : ¬ (¬ Name f.name ∨ ¬ Name f.entity)) (h2 : tyErr f.type ≠ 0) : feaErr f = tyErr f.type := (if_neg h).trans (if_pos h2)
theorem fea_b {f : Fea} (h : ¬ (¬ Name f.name ∨ ¬ Name f.entity)) (h2 : tyErr f.type = 0) : feaErr f = shape f.body := (if_neg h).trans (if_neg (not_not_intro h2))
theorem feaS_no {f : Fea} (h : feaErr f ≠ 0) : feaS f = ⟨#[]⟩ := if_neg h
theorem text_max {x : Ex} (h : shape x = 0) (hs : x.size ≤ 100) : (text x).size ≤ 50000 := by have := text_size x false (shape_form h); omega
theorem Name.size {s : Str} (h : Name s) : s.size ≤ 24 := h.1.2.1
theorem Fea.cells_row (f : Fea) : f.cells = [sv f.name, sv f.entity, iv f.type.kind, .sl false 2 (f.type.unit.map Fac.cells), sv f.type.of, iv f.body.kind, sv f.body.op, sv f.body.name, sv f.body.table, iv f.body.val.kind, iv f.body.val.n, sv f.body.val.s, .sl false 2 (f.body.unit.map Fac.cells), iv f.body.param, iv f.body.win.kind, iv f.body.win.size, .sl false 12 (f.body.args.map Ex.row), iv f.version] := by rw [← Ex.cells_row]; rfl
theorem expr_lay (x : Ex) (hs : x.size ≤ 100) : Pure Tryz.prog 9 [.agg x.lay] (.tup [sv (exprS x), iv (shape x)]) := by have := expr_ok x hs; rwa [Ex.row_eq x] at this
theorem typeS_size (t : Ty) : (typeS t).size ≤ 220 := by
  unfold typeS; split
  · rename_i h; exact tyS_size h
  · decide
theorem exprS_size (x : Ex) (hs : x.size ≤ 100) : (exprS x).size ≤ 50000 := by
  unfold exprS; split
  · rename_i h; exact text_max h hs
  · decide
theorem feaT_cat {f : Fea} (h1 : tyErr f.type = 0) (h2 : shape f.body = 0) : catS [⟨#[102, 101, 97, 116, 117, 114, 101, 32]⟩, f.name, ⟨#[32, 111, 102, 32]⟩, f.entity, ⟨#[58, 32]⟩, typeS f.type, ⟨#[32, 61, 32]⟩, exprS f.body, ⟨#[59]⟩] = feaT f := by
  simp only [catS, feaT, typeS, exprS, if_pos h1, if_pos h2, app_nil]
theorem feature_ok (f : Fea) (hs : f.body.size ≤ 100) : Pure Tryz.prog 18 [.agg f.cells] (.tup [sv (feaS f), iv (feaErr f)]) := by
  rw [Fea.cells_row]
  refine Pure.runk (fun _ => 0) Tryz.func18 comp18 era18 (Nat.le_of_ble_eq_true rfl) fun σ => ?_
  repeat' (first | exact .nil | refine .k0 ?_ | refine .k1 ?_ | refine .k2 ?_ | refine .k3 ?_ | refine .k4 ?_ | refine .k5 ?_ | refine .k6 ?_ | refine .k7 ?_ | refine .k8 ?_ | refine .k9 ?_ | (refine .cd ?_ ?_ <;> first | with_reducible exact tF | with_reducible exact fT | (intro hc; first | exact kf hc (by assumption) | exact kt hc (by assumption) | skip)) | refine .r1 ?_ ?_ | (refine .l1 ?_; intro b) | (refine .m1 ?_ ?_; intro b) | (refine .m2 ?_ ?_; intro hlen) | (refine .m3 ?_ ?_; intro hlen) | refine .t1 ?_ ?_ ?_ | refine .t2 ?_ ?_ ?_ | refine .t3 ?_ ?_ ?_ | refine .t4 ?_ ?_ ?_ | (refine .l2 ?_; intro b) | refine .u1 ?_ ?_ ?_ (fun b u c => ?_) | refine .u2 ?_ ?_ ?_ (fun b u c => ?_) | refine .an rfl (by intro hob; first | exact name_ok _ | exact typeP_ok f.type | exact expr_lay f.body hs | exact join_ok' _ rfl (Nat.le_of_ble_eq_true rfl) (by have h1 := typeS_size f.type; have h2 := exprS_size f.body hs; have h3 : Name f.name ∧ Name f.entity := (by grind); have h4 := Name.size h3.1; have h5 := Name.size h3.2; simp only [lenS, szl, List.size_toArray, List.length_cons, List.length_nil, catS_size]; omega)) ?_ ?_ | refine .t5 ?_ ?_ ?_ | refine .t6 ?_ ?_ ?_ | refine .t7 ?_ ?_ ?_ | refine .r2 ?_ ?_ | refine .r3 ?_ ?_ | refine .r4 ?_ ?_ | refine .r5 ?_ ?_ | (refine .l3 ?_; intro b) | refine .r6 ?_ ?_ | refine .r7 ?_ ?_ | refine .r8 ?_ ?_ | refine .r9 ?_ ?_ | refine .ra ?_ ?_ | (show List.all _ _ = true; rfl) | (show (_ : Nat) = _; rfl))
  try any_goals ((intro hob; first | (simp_all; done) | (simp only [BL] at *; first | (simp_all; done) | omega)))
  all_goals (try simp only [BL] at *)
  any_goals exact Nat.le_of_ble_eq_true rfl
  · rw [fea_3 hc, feaS_no (by rw [fea_3 hc]; decide)]
    (refine Sx.Fin.wk (by repeat' first | exact .refl _ | refine .same ?_ | refine .cons ?_) ?_; repeat' first | exact .refl _ | exact .nil | refine .cons ?_ ?_ | refine .tup ?_ | refine .agg ?_ | exact .sl | exact .own _)
  · have h := fea_t (f := f) (by grind) hc
    rw [h, feaS_no (by rw [h]; exact hc)]
    (refine Sx.Fin.wk (by repeat' first | exact .refl _ | refine .same ?_ | refine .cons ?_) ?_; repeat' first | exact .refl _ | exact .nil | refine .cons ?_ ?_ | refine .tup ?_ | refine .agg ?_ | exact .sl | exact .own _)
  · have h := fea_b (f := f) (by grind) (by assumption)
    rw [h, feaS_no (by rw [h]; exact hc)]
    (refine Sx.Fin.wk (by repeat' first | exact .refl _ | refine .same ?_ | refine .cons ?_) ?_; repeat' first | exact .refl _ | exact .nil | refine .cons ?_ ?_ | refine .tup ?_ | refine .agg ?_ | exact .sl | exact .own _)
  · have h := fea_b (f := f) (by grind) (by assumption)
    refine Sx.Fin.intro (by repeat' first | exact .refl _ | refine .same ?_ | refine .cons ?_) (bse ?_ ?_)
    · rw [feaT_cat (by assumption) hc]; exact (if_pos (h.trans hc)).symm
    · rw [h, hc]
def FewTab (t : Tab) : Prop := (∀ f ∈ t.fields, f.name.size ≤ 100 ∧ FewTy f.type) ∧ t.fields.length ≤ 12 ∧ t.name.size + t.entity.size ≤ 200
instance (t : Tab) : Decidable (FewTab t) := inferInstanceAs (Decidable (_ ∧ _ ∧ _))
/-- What a machine can hold. -/
structure Tab.Fits (t : Tab) : Prop where
  n : t.name.size ≤ 2 ^ 59
  e : t.entity.size ≤ 2 ^ 59
  f : ∀ f ∈ t.fields, f.type.of.size ≤ 2 ^ 59
structure Fea.Fits (f : Fea) : Prop where
  n : f.name.size ≤ 2 ^ 59
  e : f.entity.size ≤ 2 ^ 59
  t : f.type.of.size ≤ 2 ^ 59
  b : f.body.wt ≤ 2 ^ 60
theorem fewTable_ok (t : Tab) (hb : t.Fits) : Pure Tryz.prog 39 [.agg t.cells] (.v (.bool (decide (FewTab t)))) := by
  have hn := hb.n
  have he := hb.e
  refine Pure.runk (fun _ => 0) Tryz.func39 comp39 era39 (Nat.le_of_ble_eq_true rfl) fun σ => ?_
  repeat' (first | exact .nil | refine .k0 ?_ | refine .k1 ?_ | refine .k2 ?_ | refine .k3 ?_ | refine .k4 ?_ | refine .k5 ?_ | refine .k6 ?_ | refine .k7 ?_ | refine .k8 ?_ | refine .k9 ?_ | (refine .cd ?_ ?_ <;> first | with_reducible exact tF | with_reducible exact fT | (intro hc; first | exact kf hc (by assumption) | exact kt hc (by assumption) | skip)) | refine .r1 ?_ ?_ | (refine .l1 ?_; intro b) | (refine .m1 ?_ ?_; intro b) | (refine .m2 ?_ ?_; intro hlen) | (refine .m3 ?_ ?_; intro hlen) | refine .t1 ?_ ?_ ?_ | refine .t2 ?_ ?_ ?_ | refine .t3 ?_ ?_ ?_ | refine .t4 ?_ ?_ ?_ | (refine .l2 ?_; intro b) | refine .u1 ?_ ?_ ?_ (fun b u c => ?_) | refine .u2 ?_ ?_ ?_ (fun b u c => ?_) | refine .an rfl (by intro hob; first | exact fewType_ok (t.fields.getD i default).type (hb.f _ (getD_mem (by first | omega | (simp only [BL] at *; omega))))) ?_ ?_ | refine .t5 ?_ ?_ ?_ | refine .t6 ?_ ?_ ?_ | refine .t7 ?_ ?_ ?_ | refine .r2 ?_ ?_ | refine .r3 ?_ ?_ | refine .r4 ?_ ?_ | refine .r5 ?_ ?_ | (refine .l3 ?_; intro b) | refine .r6 ?_ ?_ | refine .r7 ?_ ?_ | refine .r8 ?_ ?_ | refine .r9 ?_ ?_ | refine .ra ?_ ?_ | (show List.all _ _ = true; rfl) | (show (_ : Nat) = _; rfl))
  try any_goals ((intro hob; first | (simp_all; done) | (simp only [BL] at *; first | (simp_all; done) | omega)))
  all_goals (try simp only [BL] at *)
  refine WK_loop (fun n rg σ' => ∃ i : Nat, i ≤ t.fields.length ∧ n = t.fields.length - i ∧ (∀ j, j < i → (t.fields.getD j default).name.size ≤ 100 ∧ FewTy (t.fields.getD j default).type) ∧ σ' = (1, b, Blk.cells t.cells) :: σ ∧ rg = [(1, .lp 1 b 0), (3, iv i)]) t.fields.length rfl ⟨_, _, by repeat' first | exact .row | exact .refl _ | exact .nil | refine .cons ?_ ?_ | refine .tup ?_ | refine .agg ?_ | exact .sl | exact .own _ | exact .tag, by repeat' first | exact .refl _ | refine .same ?_ | refine .cons ?_, 0, Nat.zero_le _, rfl, fun j hj => absurd hj (by omega), rfl, rfl⟩ ?_
  rintro n _ _ ⟨i, hi, hn, hp, rfl, rfl⟩
  repeat' (first | exact .nil | refine .k0 ?_ | refine .k1 ?_ | refine .k2 ?_ | refine .k3 ?_ | refine .k4 ?_ | refine .k5 ?_ | refine .k6 ?_ | refine .k7 ?_ | refine .k8 ?_ | refine .k9 ?_ | (refine .cd ?_ ?_ <;> first | with_reducible exact tF | with_reducible exact fT | (intro hc; first | exact kf hc (by assumption) | exact kt hc (by assumption) | skip)) | refine .r1 ?_ ?_ | (refine .l1 ?_; intro b) | (refine .m1 ?_ ?_; intro b) | (refine .m2 ?_ ?_; intro hlen) | (refine .m3 ?_ ?_; intro hlen) | refine .t1 ?_ ?_ ?_ | refine .t2 ?_ ?_ ?_ | refine .t3 ?_ ?_ ?_ | refine .t4 ?_ ?_ ?_ | (refine .l2 ?_; intro b) | refine .u1 ?_ ?_ ?_ (fun b u c => ?_) | refine .u2 ?_ ?_ ?_ (fun b u c => ?_) | refine .an rfl (by intro hob; first | exact fewType_ok (t.fields.getD i default).type (hb.f _ (getD_mem (by first | omega | (simp only [BL] at *; omega))))) ?_ ?_ | refine .t5 ?_ ?_ ?_ | refine .t6 ?_ ?_ ?_ | refine .t7 ?_ ?_ ?_ | refine .r2 ?_ ?_ | refine .r3 ?_ ?_ | refine .r4 ?_ ?_ | refine .r5 ?_ ?_ | (refine .l3 ?_; intro b) | refine .r6 ?_ ?_ | refine .r7 ?_ ?_ | refine .r8 ?_ ?_ | refine .r9 ?_ ?_ | refine .ra ?_ ?_ | (show List.all _ _ = true; rfl) | (show (_ : Nat) = _; rfl))
  try any_goals ((intro hob; first | (simp_all; done) | (simp only [BL] at *; first | (simp_all; done) | omega)))
  all_goals (try simp only [BL] at *)
  · refine Sx.Fin.intro (by repeat' first | exact .refl _ | refine .same ?_ | refine .cons ?_) (bf ?_)
    rintro ⟨h, _⟩
    have := h _ (getD_mem (i := i) (by omega))
    grind
  · refine ⟨t.fields.length - (i + 1), by omega, _, _, by repeat' first | exact .row | exact .refl _ | exact .nil | refine .cons ?_ ?_ | refine .tup ?_ | refine .agg ?_ | exact .sl | exact .own _ | exact .tag, by repeat' first | exact .refl _ | refine .same ?_ | refine .cons ?_, i + 1, by omega, rfl, cons_lt hp (by grind), rfl, by rw [up1 (n := t.fields.length) (by omega) (by assumption)]⟩
  · have hall := take_all (p := fun f : Fld => f.name.size ≤ 100 ∧ FewTy f.type) (l := t.fields) (fun j hj => hp j (by omega))
    refine Sx.Fin.intro (by repeat' first | exact .refl _ | refine .same ?_ | refine .cons ?_) (bd ?_)
    rw [i64w (by omega)]
    unfold FewTab
    grind
def FewFea (f : Fea) : Prop := f.name.size + f.entity.size ≤ 200 ∧ FewTy f.type ∧ 0 ≤ few f.body 80
instance (f : Fea) : Decidable (FewFea f) := inferInstanceAs (Decidable (_ ∧ _ ∧ _))
theorem few_lay (x : Ex) (hw : x.wt ≤ 2 ^ 60) (n : Int) (hn : -1 ≤ n ∧ n ≤ 1000) : Pure Tryz.prog 7 [.agg x.lay, iv n] (iv (few x n)) := by have := few_ok x hw n hn; rwa [Ex.row_eq x] at this
theorem fewFeature_ok (f : Fea) (hb : f.Fits) : Pure Tryz.prog 40 [.agg f.cells] (.v (.bool (decide (FewFea f)))) := by
  have hn := hb.n
  have he := hb.e
  rw [Fea.cells_row]
  refine Pure.runk (fun _ => 0) Tryz.func40 comp40 era40 (Nat.le_of_ble_eq_true rfl) fun σ => ?_
  repeat' (first | exact .nil | refine .k0 ?_ | refine .k1 ?_ | refine .k2 ?_ | refine .k3 ?_ | refine .k4 ?_ | refine .k5 ?_ | refine .k6 ?_ | refine .k7 ?_ | refine .k8 ?_ | refine .k9 ?_ | (refine .cd ?_ ?_ <;> first | with_reducible exact tF | with_reducible exact fT | (intro hc; first | exact kf hc (by assumption) | exact kt hc (by assumption) | skip)) | refine .r1 ?_ ?_ | (refine .l1 ?_; intro b) | (refine .m1 ?_ ?_; intro b) | (refine .m2 ?_ ?_; intro hlen) | (refine .m3 ?_ ?_; intro hlen) | refine .t1 ?_ ?_ ?_ | refine .t2 ?_ ?_ ?_ | refine .t3 ?_ ?_ ?_ | refine .t4 ?_ ?_ ?_ | (refine .l2 ?_; intro b) | refine .u1 ?_ ?_ ?_ (fun b u c => ?_) | refine .u2 ?_ ?_ ?_ (fun b u c => ?_) | refine .an rfl (by intro hob; first | exact fewType_ok f.type hb.t | exact few_lay f.body hb.b 80 (by decide)) ?_ ?_ | refine .t5 ?_ ?_ ?_ | refine .t6 ?_ ?_ ?_ | refine .t7 ?_ ?_ ?_ | refine .r2 ?_ ?_ | refine .r3 ?_ ?_ | refine .r4 ?_ ?_ | refine .r5 ?_ ?_ | (refine .l3 ?_; intro b) | refine .r6 ?_ ?_ | refine .r7 ?_ ?_ | refine .r8 ?_ ?_ | refine .r9 ?_ ?_ | refine .ra ?_ ?_ | (show List.all _ _ = true; rfl) | (show (_ : Nat) = _; rfl))
  try any_goals ((intro hob; first | (simp_all; done) | (simp only [BL] at *; first | (simp_all; done) | omega)))
  all_goals (try simp only [BL] at *)
  · refine Sx.Fin.intro (by repeat' first | exact .refl _ | refine .same ?_ | refine .cons ?_) (bd ?_)
    rw [i64w (by omega)]
    unfold FewFea
    grind
end Go.Proofs.YtklncofkcfjkeaaGreatDoor
