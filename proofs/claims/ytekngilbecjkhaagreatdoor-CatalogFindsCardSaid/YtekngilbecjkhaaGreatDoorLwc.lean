
/- What the row lists of package variables, as the layer asks for it. -/
import Derived.Test.YtekngilbecjkhaaGreatDoorRe
import Derived.Test.YtekngilbecjkhaaGreatDoorRows
import Derived.Lib.LaidU8
import Derived.Shelf.Vars
import Derived.HandedShaped
set_option linter.unusedSimpArgs false
set_option linter.unusedVariables false
set_option maxRecDepth 100000
namespace Go.Proofs.YtekngilbecjkhaaGreatDoor
open Go.Sx Go.Proofs Go.Lib
theorem pc_of {W : World} {g : Nat} {x : AV} {v : Value} (hc : W.cell? ⟨g, 0, none⟩ = some v) (h : R (M0 W) x v) : R (M0 W) (.pc [x]) (.pointer (some ⟨g, 0, none⟩)) := by
  refine .pc [x] g 0 (fun _ => v) (fun k hk => ?_) (fun k hk => ?_)
  · obtain rfl : k = 0 := by simpa using hk
    exact hc
  · obtain rfl : k = 0 := by simpa using hk
    exact h
def litD (s : Str) : DataW Unit := .lit (.string s.data.toList)
theorem strs_exact {enc : TypeId × Value → Unit} {P : Program} [Glob P] {W : World} {t e : TypeId} {fuel : Nat} {held : Bool} {cs : List Value} {p : List MemPlace} {ss : List Str} (ht : P.underlying t = some (.slice e)) (he : P.underlying e = some .string) (hce : P.cellsOf e = 1)
    (h0 : ss ≠ []) (hx : DataW.trod enc P W 0 (fun _ => true) held fuel t cs = some (.slice (ss.map litD) [], p)) : ∃ v, cs = [v] ∧ R (M0 W) (.sl false 1 (ss.map strRow)) v := by
  rcases DataW.trod_slice ht hx with ⟨_, h⟩ | ⟨a, len, cap, elems, rest, m, rfl, rfl, hx2, _, hlc, hcm, hlen, hel, hsp, _⟩
  · cases h
  · simp only [Prod.mk.injEq, DataW.slice.injEq] at hx2
    have hes := hx2.1.1
    have hl : elems.length = ss.length := by
      have := congrArg List.length hes
      simpa using this.symm
    have hpos : 0 < ss.length := List.length_pos_iff.2 h0
    have cell : ∀ i (hi : i < ss.length), W.cell? (a.add i) = some (.string (ss.getD i ⟨#[]⟩)) := by
      intro i hi
      have h1 := hel i (by omega)
      have hie : i < elems.length := by omega
      rw [List.getElem?_eq_getElem hie, Option.bind_eq_some_iff] at h1
      obtain ⟨cs', hc, ht'⟩ := h1
      obtain ⟨s, rfl, hs, _⟩ := trod_str he ht'
      obtain ⟨g1, g2⟩ := cells_get hc
      have g3 := g2 0 (by omega)
      have e1 : (elems.map (·.1))[i]'(by simpa using hie) = litD (ss[i]'hi) := by
        have : (ss.map litD)[i]'(by simpa using hi) = litD (ss[i]'hi) := by rw [List.getElem_map]
        rw [← this]
        exact List.getElem_of_eq hes.symm _
      rw [List.getElem_map, hs] at e1
      simp only [litD, DataW.lit.injEq, Lit.string.injEq] at e1
      have e2 : s = ss[i]'hi := str_ext e1
      rw [hce, Nat.mul_one] at g3
      have e3 : (a.add i).add 0 = a.add i := by rw [Go.Deep.add_add]; rfl
      rw [e3] at g3
      rw [g3, e2, List.getD_eq_getElem?_getD, List.getElem?_eq_getElem hi]; rfl
    have hs0 : a.spot = none := by
      have := spot_of_cell (cell 0 hpos)
      simpa [Addr.add] using this
    obtain ⟨b, o, s⟩ := a
    simp only at hs0
    subst hs0
    refine ⟨_, rfl, ?_⟩
    have hll : (ss.map strRow).length = len := by rw [List.length_map]; omega
    have := R.mk_sl (M := M0 W) (b := b) (off := o) (cap := cap) (esz := 1) (rows := ss.map strRow) (cs := fun k => .string (ss.getD k ⟨#[]⟩)) ⟨fun i hi => ?_, fun k hk => ?_, fun i hi j hj => ?_⟩ (by omega) hcm false
    · rw [hll] at this; exact this
    · rw [List.getElem_map]; rfl
    · have := cell k (by simpa using hk)
      rw [Addr.add_lit] at this
      exact this
    · have hi' : i < ss.length := by simpa using hi
      simp only [List.getElem_map, strRow, List.length_cons, List.length_nil] at hj ⊢
      obtain rfl : j = 0 := by omega
      rw [List.getD_eq_getElem?_getD, Nat.mul_one, Nat.add_zero, List.getElem?_eq_getElem hi']
      exact .v _
theorem glob_strs {W : World} {name : String} {G : Nat} {d : DataW Unit} {ss : List Str} (h : VarReads Tryz.prog W name d) (hg : Tryz.prog.globalNamed name = some G) (hty : (Tryz.prog.globals[G]?).map (·.type) = some 39) (hd : d = .slice (ss.map litD) []) (h0 : ss ≠ []) :
    R (M0 W) (.pc [.sl false 1 (ss.map strRow)]) (.pointer (some ⟨G, 0, none⟩)) := by
  obtain ⟨g, t, cs, fuel, p, h1, h2, h3, h4⟩ := h
  obtain rfl := Option.some.inj (hg.symm.trans h1)
  obtain rfl := Option.some.inj (hty.symm.trans h2)
  rw [hd] at h4
  obtain ⟨v, hv, hR⟩ := strs_exact Tryz.underlying39 Tryz.underlying9 (by kernel_rfl) h0 h4
  refine pc_of ?_ hR
  rw [World.var?_cell hg h3 0]
  have := congrArg (·[0]?) hv
  simpa using this
theorem globOK {W : World} (hL : laidMet Tryz.prog Rows.catalogFindsRow.laid W) (hsh : W.ShapedOpen Tryz.prog) : GlobOK Tryz.prog W := by
  refine ⟨fun g l h => ?_, rfl⟩
  simp only [Glob.av] at h
  split at h
  · cases h
    exact glob_strs (laidMet.reads hL (n := "asof/checker.aggregates") (d := Rows.laid_asof_checker_aggregates) (by simp [Rows.catalogFindsRow])) (by kernel_rfl) (by kernel_rfl) (by rfl) (by decide)
  · cases h
    exact glob_strs (laidMet.reads hL (n := "asof/checker.unary") (d := Rows.laid_asof_checker_unary) (by simp [Rows.catalogFindsRow])) (by kernel_rfl) (by kernel_rfl) (by rfl) (by decide)
  · cases h
    exact glob_strs (laidMet.reads hL (n := "asof/checker.binary") (d := Rows.laid_asof_checker_binary) (by simp [Rows.catalogFindsRow])) (by kernel_rfl) (by kernel_rfl) (by rfl) (by decide)
  · cases h
    obtain ⟨m, hm⟩ := cell_of_shapedOpen_int (g := 3) (zero := #[.int .i64 0]) (t := 3) hsh (of_decide_eq_true (by kernel_rfl)) (by kernel_rfl) rfl (by kernel_rfl) (by kernel_rfl) Tryz.underlying3
    exact pc_of hm (.ai .i64 m)
  · cases h
end Go.Proofs.YtekngilbecjkhaaGreatDoor
