
/- What is printed is not empty; the law PrinterRefuses. -/
import Derived.Test.YtklncofkcfjkeaaGreatDoorPs
set_option linter.unusedSimpArgs false
set_option linter.unusedVariables false
set_option maxRecDepth 100000
set_option maxHeartbeats 4000000
namespace Go.Proofs.YtklncofkcfjkeaaGreatDoor
open Go.Sx Go.Proofs
theorem intS_pos (n : Int) : 1 ≤ (intS n).size := by
  show 1 ≤ (Lib.decDigits n.toNat).toArray.size
  rw [List.size_toArray]; exact dd_pos _
theorem decS_pos (n : Nat) : 1 ≤ (decS n).size := by
  show 1 ≤ (Lib.decDigits (n / 10 ^ 6) ++ 46 :: lowD 6 n).toArray.size
  rw [List.size_toArray, List.length_append]; have := dd_pos (n / 10 ^ 6); omega
theorem valS_pos (v : Val) : 1 ≤ (valS v).size := by
  have h1 := intS_pos v.n
  have h2 := decS_pos v.n.toNat
  unfold valS boolS
  repeat' split
  all_goals first | decide | (first | omega | (simp only [List.length_cons, List.length_nil, List.length_append, List.length_map, List.length_take, app_size, szl, str_len, List.size_toArray]; omega))
theorem text_pos (x : Ex) (ins : Bool) (hf : form ins x = true) : 1 ≤ (text x).size := by
  have h := (FOK.of hf).nb
  have hv := valS_pos x.val
  rw [text_eq]
  unfold textF
  by_cases h1 : x.kind = 1
  · rw [if_pos h1]
    unfold litT
    split
    all_goals (first | omega | (simp only [List.length_cons, List.length_nil, List.length_append, List.length_map, List.length_take, app_size, szl, str_len, List.size_toArray]; omega))
  rw [if_neg h1]
  by_cases h4 : x.kind = 4
  · rw [if_pos h4]; (first | omega | (simp only [List.length_cons, List.length_nil, List.length_append, List.length_map, List.length_take, app_size, szl, str_len, List.size_toArray]; omega))
  rw [if_neg h4]
  by_cases h5 : x.kind = 5
  · rw [if_pos h5]; unfold aggT; (first | omega | (simp only [List.length_cons, List.length_nil, List.length_append, List.length_map, List.length_take, app_size, szl, str_len, List.size_toArray]; omega))
  rw [if_neg h5]
  by_cases h6 : x.kind = 6
  · rw [if_pos h6]; unfold unT; repeat' split
    all_goals (first | omega | (simp only [List.length_cons, List.length_nil, List.length_append, List.length_map, List.length_take, app_size, szl, str_len, List.size_toArray]; omega))
  rw [if_neg h6]
  by_cases h7 : x.kind = 7
  · rw [if_pos h7]; unfold binT; (first | omega | (simp only [List.length_cons, List.length_nil, List.length_append, List.length_map, List.length_take, app_size, szl, str_len, List.size_toArray]; omega))
  rw [if_neg h7]
  by_cases h8 : x.kind = 8
  · rw [if_pos h8]; unfold ifT; (first | omega | (simp only [List.length_cons, List.length_nil, List.length_append, List.length_map, List.length_take, app_size, szl, str_len, List.size_toArray]; omega))
  rw [if_neg h8]
  by_cases h9 : x.kind = 9
  · rw [if_pos h9]; unfold defT; (first | omega | (simp only [List.length_cons, List.length_nil, List.length_append, List.length_map, List.length_take, app_size, szl, str_len, List.size_toArray]; omega))
  rw [if_neg h9]
  have hN : namOK x := by
    unfold nodeB at h
    rw [if_neg h1] at h
    split at h
    · exact h.2
    · split at h
      · exact h.2
      · rw [if_neg (by omega)] at h; exact h.elim
  exact hN.1.1.1
theorem ne_nil {s : Str} (h : 1 ≤ s.size) : s ≠ ⟨#[]⟩ := fun e => by rw [e] at h; exact absurd h (by decide)
theorem tyS_pos (t : Ty) : 1 ≤ (tyS t).size := by
  unfold tyS
  repeat' split
  all_goals first | decide | (first | omega | (simp only [List.length_cons, List.length_nil, List.length_append, List.length_map, List.length_take, app_size, szl, str_len, List.size_toArray]; omega))
theorem exprS_nil (x : Ex) : exprS x = ⟨#[]⟩ ↔ shape x ≠ 0 := by
  unfold exprS; split
  · rename_i h; exact ⟨fun e => absurd e (ne_nil (text_pos x false (shape_form h))), fun e => absurd h e⟩
  · rename_i h; exact ⟨fun _ => h, fun _ => rfl⟩
theorem typeS_nil (t : Ty) : typeS t = ⟨#[]⟩ ↔ tyErr t ≠ 0 := by
  unfold typeS; split
  · rename_i h; exact ⟨fun e => absurd e (ne_nil (tyS_pos t)), fun e => absurd h e⟩
  · rename_i h; exact ⟨fun _ => h, fun _ => rfl⟩
def tableS (t : Tab) : Str := if tabErr t = 0 then tabS t else ⟨#[]⟩
theorem tableS_nil (t : Tab) : tableS t = ⟨#[]⟩ ↔ tabErr t ≠ 0 := by
  unfold tableS; split
  · rename_i h; exact ⟨fun e => absurd e (ne_nil (by unfold tabS; (first | omega | (simp only [List.length_cons, List.length_nil, List.length_append, List.length_map, List.length_take, app_size, szl, str_len, List.size_toArray]; omega)))), fun e => absurd h e⟩
  · rename_i h; exact ⟨fun _ => h, fun _ => rfl⟩
theorem feaS_nil (f : Fea) : feaS f = ⟨#[]⟩ ↔ feaErr f ≠ 0 := by
  unfold feaS; split
  · rename_i h; exact ⟨fun e => absurd e (ne_nil (by unfold feaT; (first | omega | (simp only [List.length_cons, List.length_nil, List.length_append, List.length_map, List.length_take, app_size, szl, str_len, List.size_toArray]; omega)))), fun e => absurd h e⟩
  · rename_i h; exact ⟨fun _ => h, fun _ => rfl⟩
theorem tableT_ok (t : Tab) : Pure Tryz.prog 16 [.agg t.cells] (.tup [sv (tableS t), iv (tabErr t)]) := tableP_ok t
theorem shape_lay (x : Ex) (hs : x.size ≤ 100) : Pure Tryz.prog 31 [.agg x.lay] (iv (shape x)) := by have := shape_ok x (by omega); rwa [Ex.row_eq x] at this
def Fea.lay (f : Fea) : List AV := [sv f.name, sv f.entity, iv f.type.kind, .sl false 2 (f.type.unit.map Fac.cells), sv f.type.of, iv f.body.kind, sv f.body.op, sv f.body.name, sv f.body.table, iv f.body.val.kind, iv f.body.val.n, sv f.body.val.s, .sl false 2 (f.body.unit.map Fac.cells), iv f.body.param, iv f.body.win.kind, iv f.body.win.size, .sl false 12 (f.body.args.map Ex.row), iv f.version]
theorem feature_lay (f : Fea) (hs : f.body.size ≤ 100) : Pure Tryz.prog 18 [.agg f.lay] (.tup [sv (feaS f), iv (feaErr f)]) := by have := feature_ok f hs; rwa [Fea.cells_row f] at this
theorem fewFea_lay (f : Fea) (hb : f.Fits) : Pure Tryz.prog 40 [.agg f.lay] (.v (.bool (decide (FewFea f)))) := by have := fewFeature_ok f hb; rwa [Fea.cells_row f] at this
theorem fewFea_size {f : Fea} (h : FewFea f) : f.body.size ≤ 100 := by
  have h2 := h.2.2
  have := (few_size f.body 80 (by decide)).2.2 h2
  omega
theorem feaErr_eq (f : Fea) : feaErr f = if ¬ Name f.name ∨ ¬ Name f.entity then 3 else if tyErr f.type ≠ 0 then tyErr f.type else shape f.body := rfl
theorem feaT_ref {f : Fea} (h1 : tyErr f.type = 0) (h2 : shape f.body = 0) : ⟨#[102, 101, 97, 116, 117, 114, 101, 32]⟩ ++ f.name ++ ⟨#[32, 111, 102, 32]⟩ ++ f.entity ++ ⟨#[58, 32]⟩ ++ typeS f.type ++ ⟨#[32, 61, 32]⟩ ++ exprS f.body ++ ⟨#[59]⟩ = feaT f := by
  simp only [feaT, typeS, exprS, if_pos h1, if_pos h2, app_assoc]
theorem feaS_cat {f : Fea} (h : feaErr f = 0) : feaS f = ⟨#[102, 101, 97, 116, 117, 114, 101, 32]⟩ ++ f.name ++ ⟨#[32, 111, 102, 32]⟩ ++ f.entity ++ ⟨#[58, 32]⟩ ++ typeS f.type ++ ⟨#[32, 61, 32]⟩ ++ exprS f.body ++ ⟨#[59]⟩ := by
  have h0 := h
  unfold feaErr at h
  split at h
  · omega
  · split at h
    · rename_i h1; exact absurd h h1
    · rename_i h1; rw [feaT_ref (Decidable.not_not.1 h1) h]; exact if_pos h0
theorem beq_nil {s : Str} {e : Int} (h : s = ⟨#[]⟩ ↔ e ≠ 0) : (decide (s = ⟨#[]⟩) == !decide (e = 0)) = true := by
  by_cases h1 : e = 0
  · have : ¬ s = ⟨#[]⟩ := fun h2 => h.1 h2 h1
    rw [decide_eq_true h1, decide_eq_false this]; rfl
  · rw [decide_eq_false h1, decide_eq_true (h.2 h1)]; rfl
end Go.Proofs.YtklncofkcfjkeaaGreatDoor
