
/- Package variables; contracts of the library, as contracts of the layer. -/
import Derived.Test.YtklncofkcfjkeaaGreatDoorPt
import Derived.Test.YtklncofkcfjkeaaGreatDoorShelf
import Derived.Test.YtklncofkcfjkeaaGreatDoorSxL
set_option linter.unusedVariables false
namespace Go.Proofs.YtklncofkcfjkeaaGreatDoor
open Go.Sx Go.Proofs Go.RowKit

theorem str_of {M : Mem} {s : Str} {v : Value} (h : R M (sv s) v) : v = .string s := h.of_v

theorem maxLen_of {M : Mem} {w0 w : World} {σ : Store} (hI : Inv Tryz.prog M w0 σ w) : ∃ m, w.cell? ⟨3, 0, none⟩ = some (.int .i64 m) := by
  obtain ⟨b, off, cs, hv, hM, hR⟩ := (hI.gl 3 [.ai .i64] rfl).of_pc
  cases hv
  obtain ⟨n, hn⟩ := (hR 0 (by simp)).of_ai
  have h1 := hI.imm _ _ _ (hM 0 (by simp))
  have hn : cs 0 = .int .i64 n := hn
  rw [hn] at h1
  exact ⟨n, h1⟩

theorem contains_one_ok (s : Str) (c : UInt8) : Pure Tryz.prog 110 [sv s, sv ⟨#[c]⟩] (.v (.bool (decide (0 ≤ Lib.indexByte s.data.toList c)))) := by
  refine Pure.shelf fun M w0 w σ cs hI hR => ?_
  obtain ⟨v1, vs, rfl, h1, h2⟩ := hR.uncons
  obtain ⟨v2, rfl, h3⟩ := h2.un1
  obtain rfl := str_of h1
  obtain rfl := str_of h3
  exact (Tryz.strings_Contains_one s c w).mono fun e w' ⟨he, hw⟩ => ⟨⟨_, he, .v _⟩, by rw [hw]; exact Below.refl _ _⟩

theorem contains_ok (s t : Str) (hs : s.size < 4294967281) : Pure Tryz.prog 110 [sv s, sv t] (.v (.bool (Lib.contains s.data.toList t.data.toList))) := by
  refine Pure.shelf fun M w0 w σ cs hI hR => ?_
  obtain ⟨v1, vs, rfl, h1, h2⟩ := hR.uncons
  obtain ⟨v2, rfl, h3⟩ := h2.un1
  obtain rfl := str_of h1
  obtain rfl := str_of h3
  obtain ⟨m, hm⟩ := maxLen_of hI
  exact (Tryz.strings_Contains s t m w hs hm).mono fun e w' ⟨he, hw⟩ => ⟨⟨_, he, .v _⟩, by rw [hw]; exact Below.refl _ _⟩

theorem formatBool_ok (b : Bool) : Pure Tryz.prog 139 [.v (.bool b)] (sv ⟨(Lib.formatBool b).toArray⟩) := by
  refine Pure.shelf fun M w0 w σ cs hI hR => ?_
  obtain ⟨v1, rfl, h1⟩ := hR.un1
  obtain rfl := h1.of_v
  exact (Tryz.strconv_FormatBool b w).mono fun e w' ⟨he, hw⟩ => ⟨⟨_, he, .v _⟩, by rw [hw]; exact Below.refl _ _⟩

theorem below_grow (w : World) (n : Nat) (os : Array Obj) : Below w.heap.size w (Go.Sort.grow (w.drewN n) os) :=
  ⟨rfl, rfl, rfl, by simp [Go.Sort.grow, World.drewN], fun k hk => by show (w.heap ++ os)[k]? = _; rw [Array.getElem?_append_left hk]⟩

def itoaS (n : Int) : Str := ⟨(Lib.itoa n).toArray⟩
theorem itoa_ok (n : Int) (h : -9223372036854775808 ≤ n ∧ n ≤ 9223372036854775807) : Pure Tryz.prog 44 [iv n] (sv (itoaS n)) := by
  refine Pure.shelf fun M w0 w σ cs hI hR => ?_
  obtain ⟨v1, rfl, h1⟩ := hR.un1
  obtain rfl := h1.of_v
  have htab : Lib.TabIs Tryz.prog w "internal/strconv.uint64pow10" .u64 Lib.pow10Tab := by
    obtain ⟨g1, g2⟩ := hI.gw
    have hg : Tryz.prog.globalNamed "internal/strconv.uint64pow10" = some 4 := by kernel_rfl
    unfold Lib.TabIs World.var? at g1 ⊢
    rw [hg] at g1 ⊢
    simp only [Option.bind_some] at g1 ⊢
    rw [hI.old _ g2]
    exact g1
  refine (Tryz.strconv_Itoa n h.1 h.2 w htab).mono fun e w' ⟨he, k, os, hw⟩ => ⟨⟨_, he, .v _⟩, ?_⟩
  rw [hw]
  exact below_grow w k os

def joinS (ws : List Str) (sep : Str) : Str := ⟨(Lib.join (ws.map (·.data.toList)) sep.data.toList).toArray⟩
theorem joinL_ok (ws : List Str) (sep : Str) (nn : Bool) (hN : ws.length ≤ 140737488355328) (hlen : (Lib.join (ws.map (·.data.toList)) sep.data.toList).length ≤ 140737488355328) :
    Pure Tryz.prog 43 [.sl nn 1 (ws.map strRow), sv sep] (sv (joinS ws sep)) := by
  refine Pure.shelf fun M w0 w σ cs hI hR => ?_
  obtain ⟨v1, vs, rfl, h1, h2⟩ := hR.uncons
  obtain ⟨v2, rfl, h3⟩ := h2.un1
  obtain rfl := str_of h3
  rcases h1.of_sl with ⟨a, _, h, rfl⟩ | ⟨b, off, cap, cs, rfl, hr, h4, h5⟩
  · have : ws = [] := by simpa using h
    subst this
    exact (Tryz.strings_Join_none a 0 sep w).mono fun e w' ⟨he, hw⟩ => ⟨⟨_, he, .v _⟩, by rw [hw]; exact Below.refl _ _⟩
  · cases ws with
    | nil => exact (Tryz.strings_Join_none (some ⟨b, off, none⟩) cap sep w).mono fun e w' ⟨he, hw⟩ => ⟨⟨_, he, .v _⟩, by rw [hw]; exact Below.refl _ _⟩
    | cons x ws =>
      have hcells : ∀ (j : Nat) y, (x :: ws)[j]? = some y → w.cell? ⟨b, off + j, none⟩ = some (.string y) := fun j y hy => by
        obtain ⟨hj, e⟩ := List.getElem?_eq_some_iff.1 hy
        have hj' : j < ((x :: ws).map strRow).length := by simpa using hj
        have h6 := hI.imm _ _ _ (hr.mem j (by simpa using hj))
        have e2 : ((x :: ws).map strRow)[j] = [sv y] := by rw [List.getElem_map, e]; rfl
        have h7 := hr.rel j hj' 0 (by rw [e2]; simp)
        simp only [e2, List.getElem_cons_zero, Nat.mul_one, Nat.add_zero] at h7
        rw [h6, h7.of_v]
      have hbk : b < w.heap.size := by
        have := World.block_lt_of_cell? _ _ (hcells 0 x rfl)
        simpa using this
      have := Tryz.strings_Join b off cap (x :: ws) sep w hcells hbk hN (by simpa using h4) hlen
      simp only [List.length_map] at this ⊢
      exact this.mono fun e w' ⟨he, hw⟩ => ⟨⟨_, he, .v _⟩, hw⟩
end Go.Proofs.YtklncofkcfjkeaaGreatDoor
