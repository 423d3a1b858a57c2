
/- How the arguments of the laws of the catalog read. -/
import Derived.Test.YtekngilbecjkhaaGreatDoorEg0
import Derived.Test.YtekngilbecjkhaaGreatDoorSxB
set_option linter.unusedSimpArgs false
set_option linter.unusedVariables false
set_option maxRecDepth 100000
namespace Go.Proofs.YtekngilbecjkhaaGreatDoor
open Go.Sx Go.Proofs
theorem own : ownKnob Tryz.prog.godebug = none := by kernel_rfl
theorem laidOut : laidOutB Tryz.prog = true := by kernel_rfl
section
variable {H : Type} {enc : TypeId × Value → H} {W : World}
theorem rd_int (n : Nat) : Rd enc Tryz.prog W n 3 fun l => ∃ z : Int, l = [iv z] := (Rd.int Tryz.underlying3).mono fun l ⟨z, h, _⟩ => ⟨z, h⟩
theorem rd_str (n : Nat) : Rd enc Tryz.prog W n 9 fun l => ∃ s : Str, l = [sv s] ∧ s.size ≤ reachBytes := Rd.str Tryz.underlying9
theorem rd_val : ∀ n : Nat, Rd enc Tryz.prog W n 31 fun l => ∃ v : Val, l = v.cells ∧ v.s.size ≤ reachBytes
  | 0 => Rd.zero _ _
  | n + 1 => (Rd.struct Tryz.underlying31 (by kernel_rfl) (.cons (rd_int n) (.cons (rd_int n) (.cons (rd_str n) .nil)))).mono (by
    rintro _ ⟨_, _, rfl, ⟨a, rfl⟩, _, _, rfl, ⟨b, rfl⟩, _, _, rfl, ⟨c, rfl, hc⟩, rfl⟩
    exact ⟨⟨a, b, c⟩, rfl, hc⟩)
theorem rd_win : ∀ n : Nat, Rd enc Tryz.prog W n 34 fun l => ∃ w : Win, l = w.cells
  | 0 => Rd.zero _ _
  | n + 1 => (Rd.struct Tryz.underlying34 (by kernel_rfl) (.cons (rd_int n) (.cons (rd_int n) .nil))).mono (by
    rintro _ ⟨_, _, rfl, ⟨a, rfl⟩, _, _, rfl, ⟨b, rfl⟩, rfl⟩
    exact ⟨⟨a, b⟩, rfl⟩)
theorem rd_fac : ∀ n : Nat, Rd enc Tryz.prog W n 124 fun l => ∃ f : Fac, l = f.cells
  | 0 => Rd.zero _ _
  | n + 1 => (Rd.struct Tryz.underlying124 (by kernel_rfl) (.cons (rd_str n) (.cons (rd_int n) .nil))).mono (by
    rintro _ ⟨_, _, rfl, ⟨a, rfl, _⟩, _, _, rfl, ⟨b, rfl⟩, rfl⟩
    exact ⟨⟨a, b⟩, rfl⟩)
theorem rd_unit : ∀ n : Nat, Rd enc Tryz.prog W n 32 fun l => ∃ u : List Fac, l = [.sl false 2 (u.map Fac.cells)]
  | 0 => Rd.zero _ _
  | n + 1 => (Rd.slice Tryz.underlying32 (esz := 2) (by kernel_rfl) (by decide) (rd_fac n)).mono (by
    rintro _ ⟨rows, rfl, _, h⟩
    obtain ⟨ls, rfl, _⟩ := rows_map (f := Fac.cells) (W := fun _ => True) (fun r hr => by obtain ⟨x, h⟩ := h r hr; exact ⟨x, h, trivial⟩)
    exact ⟨ls, rfl⟩)
theorem rd_type : ∀ n : Nat, Rd enc Tryz.prog W n 47 fun l => ∃ t : Ty, l = t.cells ∧ t.of.size ≤ reachBytes
  | 0 => Rd.zero _ _
  | n + 1 => (Rd.struct Tryz.underlying47 (by kernel_rfl) (.cons (rd_int n) (.cons (rd_unit n) (.cons (rd_str n) .nil)))).mono (by
    rintro _ ⟨_, _, rfl, ⟨a, rfl⟩, _, _, rfl, ⟨b, rfl⟩, _, _, rfl, ⟨c, rfl, hc⟩, rfl⟩
    exact ⟨⟨a, b, c⟩, rfl, hc⟩)
theorem wtL_le {l : List Ex} {k : Nat} (h : ∀ y ∈ l, y.wt ≤ k) : Ex.wtL l ≤ k := by
  induction l with
  | nil => exact Nat.zero_le _
  | cons x l ih =>
    have h1 := h x (by simp)
    have h2 := ih fun y hy => h y (by simp [hy])
    rw [Ex.wtL]; omega
mutual
theorem rd_ex : ∀ n : Nat, Rd enc Tryz.prog W n 37 fun l => ∃ x : Ex, l = x.row ∧ x.wt ≤ 2 ^ 60
  | 0 => Rd.zero _ _
  | n + 1 => (Rd.struct Tryz.underlying37 (by kernel_rfl) (.cons (rd_int n) (.cons (rd_str n) (.cons (rd_str n) (.cons (rd_str n) (.cons (rd_val n) (.cons (rd_unit n) (.cons (rd_int n) (.cons (rd_win n) (.cons (rd_exs n) .nil)))))))))).mono (by
    rintro _ ⟨_, _, rfl, ⟨k, rfl⟩, _, _, rfl, ⟨o, rfl, ho⟩, _, _, rfl, ⟨nm, rfl, hn⟩, _, _, rfl, ⟨t, rfl, ht⟩, _, _, rfl, ⟨v, rfl, hv⟩, _, _, rfl, ⟨u, rfl⟩, _, _, rfl, ⟨p, rfl⟩, _, _, rfl, ⟨w, rfl⟩, _, _, rfl, ⟨ks, rfl, hks⟩, rfl⟩
    refine ⟨⟨k, o, nm, t, v, u, p, w, ks⟩, (Ex.row_eq _).symm ▸ rfl, ?_⟩
    rw [Ex.wt]
    have := wtL_le hks
    have hr : reachBytes ≤ 2 ^ 47 := by decide
    omega)
theorem rd_exs : ∀ n : Nat, Rd enc Tryz.prog W n 35 fun l => ∃ ks : List Ex, l = [.sl false 12 (ks.map Ex.row)] ∧ ∀ y ∈ ks, y.wt ≤ 2 ^ 60
  | 0 => Rd.zero _ _
  | n + 1 => (Rd.slice Tryz.underlying35 (esz := 12) (by kernel_rfl) (by decide) (rd_ex n)).mono (by
    rintro _ ⟨rows, rfl, _, h⟩
    obtain ⟨ls, rfl, hl⟩ := rows_map (f := Ex.row) (W := fun y => y.wt ≤ 2 ^ 60) (fun r hr => h r hr)
    exact ⟨ls, rfl, hl⟩)
end
theorem rd_fld : ∀ n : Nat, Rd enc Tryz.prog W n 96 fun l => ∃ f : Fld, l = f.cells
  | 0 => Rd.zero _ _
  | n + 1 => (Rd.struct Tryz.underlying96 (by kernel_rfl) (.cons (rd_str n) (.cons (rd_type n) .nil))).mono (by
    rintro _ ⟨_, _, rfl, ⟨a, rfl, _⟩, _, _, rfl, ⟨b, rfl, hb⟩, rfl⟩
    exact ⟨⟨a, b⟩, rfl⟩)
theorem rd_flds : ∀ n : Nat, Rd enc Tryz.prog W n 56 fun l => ∃ fs : List Fld, l = [.sl false 4 (fs.map Fld.cells)]
  | 0 => Rd.zero _ _
  | n + 1 => (Rd.slice Tryz.underlying56 (esz := 4) (by kernel_rfl) (by decide) (rd_fld n)).mono (by
    rintro _ ⟨rows, rfl, _, h⟩
    obtain ⟨ls, rfl, _⟩ := rows_map (f := Fld.cells) (W := fun _ => True) (fun r hr => by obtain ⟨x, h⟩ := h r hr; exact ⟨x, h, trivial⟩)
    exact ⟨ls, rfl⟩)
theorem rd_tab : ∀ n : Nat, Rd enc Tryz.prog W n 58 fun l => ∃ t : Tab, l = t.cells
  | 0 => Rd.zero _ _
  | n + 1 => (Rd.struct Tryz.underlying58 (by kernel_rfl) (.cons (rd_str n) (.cons (rd_str n) (.cons (rd_flds n) (.cons (rd_int n) .nil))))).mono (by
    rintro _ ⟨_, _, rfl, ⟨a, rfl, ha⟩, _, _, rfl, ⟨b, rfl, hb⟩, _, _, rfl, ⟨fs, rfl⟩, _, _, rfl, ⟨k, rfl⟩, rfl⟩
    exact ⟨⟨a, b, fs, k⟩, rfl⟩)
def FeaFits (f : Fea) : Prop := f.name.size ≤ 2 ^ 60 ∧ f.body.wt ≤ 2 ^ 60
theorem fea_row (f : Fea) : f.cells = [sv f.name, sv f.entity] ++ f.type.cells ++ f.body.row ++ [iv f.version] := by rw [Ex.row_eq]; unfold Fea.cells Ty.cells; rw [Ex.cells_row]; rfl
theorem rd_fea : ∀ n : Nat, Rd enc Tryz.prog W n 49 fun l => ∃ f : Fea, l = f.cells ∧ FeaFits f
  | 0 => Rd.zero _ _
  | n + 1 => (Rd.struct Tryz.underlying49 (by kernel_rfl) (.cons (rd_str n) (.cons (rd_str n) (.cons (rd_type n) (.cons (rd_ex n) (.cons (rd_int n) .nil)))))).mono (by
    rintro _ ⟨_, _, rfl, ⟨a, rfl, ha⟩, _, _, rfl, ⟨b, rfl, hb⟩, _, _, rfl, ⟨t, rfl, ht⟩, _, _, rfl, ⟨x, rfl, hx⟩, _, _, rfl, ⟨v, rfl⟩, rfl⟩
    exact ⟨⟨a, b, t, x, v⟩, by rw [fea_row]; simp, Nat.le_trans ha (by decide), hx⟩)
theorem rd_tabs : ∀ n : Nat, Rd enc Tryz.prog W n 22 fun l => ∃ ts : List Tab, l = [.sl false 4 (ts.map Tab.cells)]
  | 0 => Rd.zero _ _
  | n + 1 => (Rd.slice Tryz.underlying22 (esz := 4) (by kernel_rfl) (by decide) (rd_tab n)).mono (by
    rintro _ ⟨rows, rfl, _, h⟩
    obtain ⟨ls, rfl, _⟩ := rows_map (f := Tab.cells) (W := fun _ => True) (fun r hr => by obtain ⟨x, h⟩ := h r hr; exact ⟨x, h, trivial⟩)
    exact ⟨ls, rfl⟩)
theorem rd_feas : ∀ n : Nat, Rd enc Tryz.prog W n 23 fun l => ∃ fs : List Fea, l = [.sl false 18 (fs.map Fea.cells)] ∧ ∀ f ∈ fs, FeaFits f
  | 0 => Rd.zero _ _
  | n + 1 => (Rd.slice Tryz.underlying23 (esz := 18) (by kernel_rfl) (by decide) (rd_fea n)).mono (by
    rintro _ ⟨rows, rfl, _, h⟩
    obtain ⟨ls, rfl, hl⟩ := rows_map (f := Fea.cells) (W := FeaFits) (fun r hr => h r hr)
    exact ⟨ls, rfl, hl⟩)
theorem rd_cat : ∀ n : Nat, Rd enc Tryz.prog W n 25 fun l => ∃ c : Cat, l = c.cells ∧ c.Fits
  | 0 => Rd.zero _ _
  | n + 1 => (Rd.struct Tryz.underlying25 (by kernel_rfl) (.cons (rd_tabs n) (.cons (rd_feas n) (.cons (rd_feas n) (.cons (rd_feas n) .nil))))).mono (by
    rintro _ ⟨_, _, rfl, ⟨ts, rfl⟩, _, _, rfl, ⟨fs, rfl, hf⟩, _, _, rfl, ⟨ds, rfl, _⟩, _, _, rfl, ⟨ps, rfl, _⟩, rfl⟩
    exact ⟨⟨ts, fs, ds, ps⟩, rfl, fun f h => (hf f h).1, fun f h => (hf f h).2⟩)
end
end Go.Proofs.YtekngilbecjkhaaGreatDoor
