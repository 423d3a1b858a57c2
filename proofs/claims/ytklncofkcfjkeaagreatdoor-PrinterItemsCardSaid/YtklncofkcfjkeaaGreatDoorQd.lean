
/- The contract of printer.Module; the law PrinterItems; how its argument reads. -/
import Derived.Test.YtklncofkcfjkeaaGreatDoorQa
import Derived.Test.YtklncofkcfjkeaaGreatDoorQc
import Derived.Test.YtklncofkcfjkeaaGreatDoorRd
set_option linter.unusedVariables false
set_option maxRecDepth 100000
namespace Go.Proofs.YtklncofkcfjkeaaGreatDoor
open Go.Sx Go.Proofs Go.RowKit
theorem rows_at {M : Mem} {esz n : Nat} {rows : List (List AV)} {v : Value} (hn : rows.length = n) (h : R M (.sl false esz rows) v) :
    ∃ a cap, v = .slice a n cap ∧ ∀ i (hi : i < n), ∃ bb off, a = some ⟨bb, off, none⟩ ∧ ∃ cs : List Value, RL M (rows.getD i []) cs ∧ cs.length = esz ∧ ∀ j (hj : j < cs.length), M bb (off + i * esz + j) = some cs[j] := by
  subst hn
  obtain ⟨a, cap, e, hr⟩ := slice_rows h
  refine ⟨a, cap, e, fun i hi => ?_⟩
  have e2 : rows.getD i [] = rows[i] := by rw [List.getD_eq_getElem?_getD, List.getElem?_eq_getElem hi]; rfl
  rw [e2]
  exact hr i hi
theorem getD_map {α : Type} [Inhabited α] (g : α → List AV) {l : List α} {i : Nat} (h : i < l.length) : (l.map g).getD i [] = g (l.getD i default) := by
  rw [getD_eq h, List.getD_eq_getElem?_getD, List.getElem?_map, List.getElem?_eq_getElem h]; rfl
theorem module_calls (m : Mdl) (hm : m.Small) (M : Mem) (w0 w : World) (σ : Store) (v : Value) (hI : Inv Tryz.prog M w0 σ w) (hv : R M (.agg m.cells) v) :
    Calls Tryz.prog 20 #[v] w fun e w' => e = .returned (.tuple #[.string (modS m), .int .i64 (modErr m)]) ∧ Below w.heap.size w w' := by
  obtain ⟨c, hvc, hc⟩ := hv.of_agg
  obtain ⟨vT, d, hd, hT, hc⟩ := hc.uncons
  obtain ⟨vF, d2, hd2, hF, hc⟩ := hc.uncons
  have hd3 := hc.unnil
  obtain ⟨aT, cT, eT, rT⟩ := rows_at (n := m.tables.length) (by simp) hT
  obtain ⟨aF, cF, eF, rF⟩ := rows_at (n := m.features.length) (by simp) hF
  have e : v = .agg #[.slice aT m.tables.length cT, .slice aF m.features.length cF] := by rw [hvc, hd, hd2, hd3, eT, eF]
  rw [e]
  exact module_walk m hm M w0 w σ hI aT aF cT cF (fun i hi => by have := rT i hi; rwa [getD_map Tab.cells hi] at this) (fun i hi => by have := rF i hi; rwa [getD_map Fea.cells hi] at this)
theorem module_ok (m : Mdl) (hm : m.Small) : Pure Tryz.prog 20 [.agg m.cells] (.tup [sv (modS m), iv (modErr m)]) := by
  have hr : ∀ M : Mem, R M (.tup [sv (modS m), iv (modErr m)]) (.tuple #[.string (modS m), .int .i64 (modErr m)]) := fun M => R.mk_tup (cs := [.string (modS m), .int .i64 (modErr m)]) (RL.cons (.v _) (RL.cons (.v _) RL.nil))
  refine Pure.shelf fun M w0 w σ cs hI hR => ?_
  obtain ⟨v, cs', hcs, hv, hR⟩ := hR.uncons
  have h0 := hR.unnil
  have e : cs.toArray = #[v] := by rw [hcs, h0]
  rw [e]
  exact (module_calls m hm M w0 w σ v hI hv).mono fun e w' h => ⟨⟨_, h.1, hr M⟩, h.2⟩
theorem printerItems_ok (m : Mdl) (hm : m.Fits) : Pure Tryz.prog 5 [.agg m.cells] (.v (.bool true)) := printerItems_of module_ok m hm
section
variable {H : Type} {enc : TypeId × Value → H} {W : World}
theorem rd_tabs : ∀ n : Nat, Rd enc Tryz.prog W n 42 fun l => ∃ ts : List Tab, l = [.sl false 4 (ts.map Tab.cells)] ∧ ∀ t ∈ ts, t.Fits
  | 0 => Rd.zero _ _
  | n + 1 => (Rd.slice Tryz.underlying42 (esz := 4) (by kernel_rfl) (by decide) (rd_tab n)).mono (by
    rintro _ ⟨rows, rfl, _, h⟩
    obtain ⟨ls, rfl, hl⟩ := rows_map (f := Tab.cells) (W := fun t => t.Fits) (fun r hr => h r hr)
    exact ⟨ls, rfl, hl⟩)
theorem rd_feas : ∀ n : Nat, Rd enc Tryz.prog W n 43 fun l => ∃ fs : List Fea, l = [.sl false 18 (fs.map Fea.cells)] ∧ ∀ f ∈ fs, f.Fits
  | 0 => Rd.zero _ _
  | n + 1 => (Rd.slice Tryz.underlying43 (esz := 18) (by kernel_rfl) (by decide) (rd_fea n)).mono (by
    rintro _ ⟨rows, rfl, _, h⟩
    obtain ⟨ls, rfl, hl⟩ := rows_map (f := Fea.cells) (W := fun f => f.Fits) (fun r hr => h r hr)
    exact ⟨ls, rfl, hl⟩)
theorem rd_mdl : ∀ n : Nat, Rd enc Tryz.prog W n 45 fun l => ∃ m : Mdl, l = m.cells ∧ m.Fits
  | 0 => Rd.zero _ _
  | n + 1 => (Rd.struct Tryz.underlying45 (by kernel_rfl) (.cons (rd_tabs n) (.cons (rd_feas n) .nil))).mono (by
    rintro _ ⟨_, _, rfl, ⟨ts, rfl, ht⟩, _, _, rfl, ⟨fs, rfl, hf⟩, rfl⟩
    exact ⟨⟨ts, fs⟩, rfl, ht, hf⟩)
end
end Go.Proofs.YtklncofkcfjkeaaGreatDoor
