
/- CatalogFinds. -/
import Derived.Test.YtekngilbecjkhaaGreatDoorEh
set_option linter.unusedSimpArgs false
set_option linter.unusedVariables false
set_option maxRecDepth 100000
set_option maxHeartbeats 4000000
namespace Go.Sx
theorem Pure.wkr {P : Program} [Glob P] {f : FuncId} {xs : List AV} {r r' : AV} (h : Pure P f xs r) (hw : Wk r r') : Pure P f xs r' :=
  ⟨fun σ => (h.sp σ).weak fun q σ' ⟨e1, e2⟩ => ⟨.ret r', σ, ⟨rfl, rfl⟩, by subst e2; exact .refl _, by subst e1; exact hw⟩⟩
end Go.Sx
namespace Go.Proofs.YtekngilbecjkhaaGreatDoor
open Go.Sx Go.Proofs Go.Tb
def zfe : Fea := ⟨s0, s0, ⟨0, [], s0⟩, ⟨0, s0, s0, s0, ⟨0, 0, s0⟩, [], 0, ⟨0, 0⟩, []⟩, 0⟩
/-- What a search by name yields. -/
def gotF (o : Option Fea) : AV := .tup [.agg (o.getD zfe).cells, .v (.bool o.isSome)]
theorem got_wk (o : Option Fea) : Wk (foundF o) (gotF o) := by
  cases o with
  | some f => exact Wk.refl _
  | none =>
    refine .tup (.cons (.agg ?_) (.cons (Wk.refl _) .nil))
    repeat' first | exact .refl _ | exact .nil | refine .cons ?_ ?_
theorem findC_ok (fs : List Fea) (n : Str) : Pure Tryz.prog 55 [.sl false 18 (fs.map Fea.cells), sv n] (gotF (findF fs n)) := by
  cases h : findF fs n with
  | none => exact (find_none fs n h).wkr (got_wk none)
  | some f => exact (find_some fs n f h).wkr (got_wk (some f))
theorem findR_ok (fs : List Fea) (n : Str) : Pure Tryz.prog 60 [.sl false 18 (fs.map Fea.cells), sv n] (gotF (findF fs n)) := (find12_ok fs n _ rfl).wkr (got_wk _)
theorem featC_ok (c : Cat) (n : Str) : Pure Tryz.prog 24 [.agg c.cells, sv n] (gotF (findF c.features n)) := by
  refine Pure.runk (fun _ => 0) Tryz.func24 comp24 era24 (Nat.le_of_ble_eq_true rfl) fun σ => ?_
  repeat' (first | exact .nil | refine .k0 ?_ | refine .k1 ?_ | refine .k2 ?_ | refine .k3 ?_ | refine .k4 ?_ | refine .k5 ?_ | refine .k6 ?_ | refine .k7 ?_ | refine .k8 ?_ | refine .k9 ?_ | (refine .cd ?_ ?_ <;> first | with_reducible exact tF | with_reducible exact fT | (intro hc; first | exact kf hc (by assumption) | exact kt hc (by assumption) | skip)) | refine .r1 ?_ ?_ | (refine .l1 ?_; intro b) | (refine .m1 ?_ ?_; intro b) | (refine .m2 ?_ ?_; intro hlen) | (refine .m3 ?_ ?_; intro hlen) | refine .t1 ?_ ?_ ?_ | refine .t2 ?_ ?_ ?_ | refine .t3 ?_ ?_ ?_ | refine .t4 ?_ ?_ ?_ | (refine .l2 ?_; intro b) | refine .u1 ?_ ?_ ?_ (fun b u c => ?_) | refine .u2 ?_ ?_ ?_ (fun b u c => ?_) | refine .u4 ?_ ?_ (fun b u c => ?_) | refine .u5 ?_ ?_ ?_ | refine .u3 ?_ ?_ (fun hr0 => ?_) (fun hr1 b u c => ?_) | refine .an rfl (by intro hob; first | exact findC_ok _ _ | exact findR_ok _ _) ?_ ?_ | refine .t5 ?_ ?_ ?_ | refine .t6 ?_ ?_ ?_ | refine .t7 ?_ ?_ ?_ | refine .r2 ?_ ?_ | refine .r3 ?_ ?_ | refine .r4 ?_ ?_ | refine .r5 ?_ ?_ | (refine .l3 ?_; intro b) | refine .r6 ?_ ?_ | refine .r7 ?_ ?_ | refine .r8 ?_ ?_ | refine .r9 ?_ ?_ | refine .ra ?_ ?_ | (show List.all _ _ = true; rfl) | (show (_ : Nat) = _; rfl))
  try any_goals ((intro hob; first | (simp_all; done) | (simp only [BL] at *; first | (simp_all; done) | omega)))
  all_goals (try simp only [BL] at *)
  (refine Sx.Fin.wk (by repeat' first | exact .refl _ | refine .same ?_ | refine .cons ?_) ?_; repeat' first | exact .refl _ | exact .nil | refine .cons ?_ ?_ | refine .tup ?_ | refine .agg ?_ | exact .sl | exact .own _)
end Go.Proofs.YtekngilbecjkhaaGreatDoor
