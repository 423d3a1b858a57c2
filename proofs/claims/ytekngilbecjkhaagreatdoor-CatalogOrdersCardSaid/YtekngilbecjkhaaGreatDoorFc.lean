
/- CatalogCloses. -/
import Derived.Test.YtekngilbecjkhaaGreatDoorFb
set_option linter.unusedSimpArgs false
set_option linter.unusedVariables false
set_option maxRecDepth 100000
set_option maxHeartbeats 4000000
namespace Go.Proofs.YtekngilbecjkhaaGreatDoor
open Go.Sx Go.Proofs Go.Tb
/-! What is used, by membership. -/
def sortL : List Str → List Str
  | [] => []
  | s :: l => putL (sortL l) s
theorem sortL_mem {x : Str} : ∀ {l : List Str}, x ∈ sortL l ↔ x ∈ l
  | [] => Iff.rfl
  | s :: l => by rw [sortL, putL_mem, sortL_mem (l := l), List.mem_cons]
theorem sortL_srt : ∀ l : List Str, Srt (sortL l)
  | [] => srt_nil
  | s :: l => putL_srt (sortL_srt l)
open Classical in
theorem srtOf_mem {p : Str → Prop} {u : List Str} (h : ∀ x, p x → x ∈ u) (x : Str) : x ∈ srtOf p ↔ p x := by
  have h2 : ∀ x, x ∈ sortL (u.filter fun x => decide (p x)) ↔ p x := fun x => by
    rw [sortL_mem, List.mem_filter]
    exact ⟨fun h => by simpa using h.2, fun k => ⟨h x k, by simpa using k⟩⟩
  rw [srtOf_eq (sortL_srt _) h2]; exact h2 x
theorem usesF_mem {fs : List Fea} {x : Ex} {s : Str} : s ∈ usesF fs x ↔ Reach fs x.feats s := srtOf_mem (u := univ fs x.feats) (fun s h => reach_univ h) s
theorem in_t {l : List Str} {s : Str} (h : s ∈ l) : Pure Tryz.prog 25 [strsA l, sv s] (.v (.bool true)) := by have := in_ok l s; rwa [decide_eq_true h] at this
theorem in_f {l : List Str} {s : Str} (h : s ∉ l) : Pure Tryz.prog 25 [strsA l, sv s] (.v (.bool false)) := by have := in_ok l s; rwa [decide_eq_false h] at this
theorem direct_nil (x : Ex) (hz : x.size ≤ 5000) : Pure Tryz.prog 22 [.agg x.row, nilA, nilA] (.tup [strsA (dirF x), strsA (dirT x)]) := dirR_nil x (by have := feats_size x; omega) (by have := feats_size x; omega)
theorem uses_row (c : Cat) (x : Ex) (hs : Small c) (hc : c.Fits) (hz : x.size ≤ 5000) (hx : x.wt ≤ 2 ^ 60) : Pure Tryz.prog 15 [.agg c.cells, .agg x.row] (.tup [strsV (usesF c.features x), strsV (usesT c.features x)]) := by
  have h := uses_ok c x (usmall hs hc hz hx); rwa [Ex.cells_row] at h
theorem got_small {c : Cat} (hs : Small c) (hc : c.Fits) (n : Str) : ((findF c.features n).getD zfe).body.size ≤ 5000 ∧ ((findF c.features n).getD zfe).body.wt ≤ 2 ^ 60 := by
  cases h : findF c.features n with
  | none => exact ⟨by decide +kernel, by decide +kernel⟩
  | some f => have hm := (findF_mem h).1; exact ⟨by have := body_size hs hm; simp only [Option.getD_some]; omega, hc.b f hm⟩
end Go.Proofs.YtekngilbecjkhaaGreatDoor
