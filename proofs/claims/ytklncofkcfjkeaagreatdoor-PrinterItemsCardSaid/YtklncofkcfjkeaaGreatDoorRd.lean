
/- How the arguments of the printer's laws read. -/
import Derived.Test.YtklncofkcfjkeaaGreatDoorPs
import Derived.Test.YtklncofkcfjkeaaGreatDoorSxB
set_option linter.unusedSimpArgs false
set_option linter.unusedVariables false
set_option maxRecDepth 100000
namespace Go.Proofs.YtklncofkcfjkeaaGreatDoor
open Go.Sx Go.Proofs
theorem own : ownKnob Tryz.prog.godebug = none := by kernel_rfl
theorem laidOut : laidOutB Tryz.prog = true := by kernel_rfl
section
variable {H : Type} {enc : TypeId × Value → H} {W : World}
theorem rd_int (n : Nat) : Rd enc Tryz.prog W n 3 fun l => ∃ z : Int, l = [iv z] := (Rd.int Tryz.underlying3).mono fun l ⟨z, h, _⟩ => ⟨z, h⟩
theorem rd_str (n : Nat) : Rd enc Tryz.prog W n 9 fun l => ∃ s : Str, l = [sv s] ∧ s.size ≤ reachBytes := Rd.str Tryz.underlying9
theorem rd_val : ∀ n : Nat, Rd enc Tryz.prog W n 23 fun l => ∃ v : Val, l = v.cells ∧ v.s.size ≤ reachBytes
  | 0 => Rd.zero _ _
  | n + 1 => (Rd.struct Tryz.underlying23 (by kernel_rfl) (.cons (rd_int n) (.cons (rd_int n) (.cons (rd_str n) .nil)))).mono (by
    rintro _ ⟨_, _, rfl, ⟨a, rfl⟩, _, _, rfl, ⟨b, rfl⟩, _, _, rfl, ⟨c, rfl, hc⟩, rfl⟩
    exact ⟨⟨a, b, c⟩, rfl, hc⟩)
theorem rd_win : ∀ n : Nat, Rd enc Tryz.prog W n 26 fun l => ∃ w : Win, l = w.cells
  | 0 => Rd.zero _ _
  | n + 1 => (Rd.struct Tryz.underlying26 (by kernel_rfl) (.cons (rd_int n) (.cons (rd_int n) .nil))).mono (by
    rintro _ ⟨_, _, rfl, ⟨a, rfl⟩, _, _, rfl, ⟨b, rfl⟩, rfl⟩
    exact ⟨⟨a, b⟩, rfl⟩)
theorem rd_fac : ∀ n : Nat, Rd enc Tryz.prog W n 57 fun l => ∃ f : Fac, l = f.cells
  | 0 => Rd.zero _ _
  | n + 1 => (Rd.struct Tryz.underlying57 (by kernel_rfl) (.cons (rd_str n) (.cons (rd_int n) .nil))).mono (by
    rintro _ ⟨_, _, rfl, ⟨a, rfl, _⟩, _, _, rfl, ⟨b, rfl⟩, rfl⟩
    exact ⟨⟨a, b⟩, rfl⟩)
theorem rd_unit : ∀ n : Nat, Rd enc Tryz.prog W n 24 fun l => ∃ u : List Fac, l = [.sl false 2 (u.map Fac.cells)]
  | 0 => Rd.zero _ _
  | n + 1 => (Rd.slice Tryz.underlying24 (esz := 2) (by kernel_rfl) (by decide) (rd_fac n)).mono (by
    rintro _ ⟨rows, rfl, _, h⟩
    obtain ⟨ls, rfl, _⟩ := rows_map (f := Fac.cells) (W := fun _ => True) (fun r hr => by obtain ⟨x, h⟩ := h r hr; exact ⟨x, h, trivial⟩)
    exact ⟨ls, rfl⟩)
theorem rd_type : ∀ n : Nat, Rd enc Tryz.prog W n 38 fun l => ∃ t : Ty, l = t.cells ∧ t.of.size ≤ reachBytes
  | 0 => Rd.zero _ _
  | n + 1 => (Rd.struct Tryz.underlying38 (by kernel_rfl) (.cons (rd_int n) (.cons (rd_unit n) (.cons (rd_str n) .nil)))).mono (by
    rintro _ ⟨_, _, rfl, ⟨a, rfl⟩, _, _, rfl, ⟨b, rfl⟩, _, _, rfl, ⟨c, rfl, hc⟩, rfl⟩
    exact ⟨⟨a, b, c⟩, rfl, hc⟩)
theorem wtL_le {l : List Ex} {k : Nat} (h : ∀ y ∈ l, y.wt ≤ k) : Ex.wtL l ≤ k := by
  induction l with
  | nil => exact Nat.zero_le _
  | cons x l ih =>
    have h1 := h x (by simp)
    have h2 := ih fun y hy => h y (by simp [hy])
    rw [Ex.wtL]; omega
mutual
theorem rd_ex : ∀ n : Nat, Rd enc Tryz.prog W n 29 fun l => ∃ x : Ex, l = x.row ∧ x.wt ≤ 2 ^ 60
  | 0 => Rd.zero _ _
  | n + 1 => (Rd.struct Tryz.underlying29 (by kernel_rfl) (.cons (rd_int n) (.cons (rd_str n) (.cons (rd_str n) (.cons (rd_str n) (.cons (rd_val n) (.cons (rd_unit n) (.cons (rd_int n) (.cons (rd_win n) (.cons (rd_exs n) .nil)))))))))).mono (by
    rintro _ ⟨_, _, rfl, ⟨k, rfl⟩, _, _, rfl, ⟨o, rfl, ho⟩, _, _, rfl, ⟨nm, rfl, hn⟩, _, _, rfl, ⟨t, rfl, ht⟩, _, _, rfl, ⟨v, rfl, hv⟩, _, _, rfl, ⟨u, rfl⟩, _, _, rfl, ⟨p, rfl⟩, _, _, rfl, ⟨w, rfl⟩, _, _, rfl, ⟨ks, rfl, hks⟩, rfl⟩
    refine ⟨⟨k, o, nm, t, v, u, p, w, ks⟩, (Ex.row_eq _).symm ▸ rfl, ?_⟩
    rw [Ex.wt]
    have := wtL_le hks
    have hr : reachBytes ≤ 2 ^ 47 := by decide
    omega)
theorem rd_exs : ∀ n : Nat, Rd enc Tryz.prog W n 27 fun l => ∃ ks : List Ex, l = [.sl false 12 (ks.map Ex.row)] ∧ ∀ y ∈ ks, y.wt ≤ 2 ^ 60
  | 0 => Rd.zero _ _
  | n + 1 => (Rd.slice Tryz.underlying27 (esz := 12) (by kernel_rfl) (by decide) (rd_ex n)).mono (by
    rintro _ ⟨rows, rfl, _, h⟩
    obtain ⟨ls, rfl, hl⟩ := rows_map (f := Ex.row) (W := fun y => y.wt ≤ 2 ^ 60) (fun r hr => h r hr)
    exact ⟨ls, rfl, hl⟩)
end
theorem rd_fld : ∀ n : Nat, Rd enc Tryz.prog W n 63 fun l => ∃ f : Fld, l = f.cells ∧ f.type.of.size ≤ 2 ^ 59
  | 0 => Rd.zero _ _
  | n + 1 => (Rd.struct Tryz.underlying63 (by kernel_rfl) (.cons (rd_str n) (.cons (rd_type n) .nil))).mono (by
    rintro _ ⟨_, _, rfl, ⟨a, rfl, _⟩, _, _, rfl, ⟨b, rfl, hb⟩, rfl⟩
    exact ⟨⟨a, b⟩, rfl, Nat.le_trans hb (by decide)⟩)
theorem rd_flds : ∀ n : Nat, Rd enc Tryz.prog W n 48 fun l => ∃ fs : List Fld, l = [.sl false 4 (fs.map Fld.cells)] ∧ ∀ f ∈ fs, f.type.of.size ≤ 2 ^ 59
  | 0 => Rd.zero _ _
  | n + 1 => (Rd.slice Tryz.underlying48 (esz := 4) (by kernel_rfl) (by decide) (rd_fld n)).mono (by
    rintro _ ⟨rows, rfl, _, h⟩
    obtain ⟨ls, rfl, hl⟩ := rows_map (f := Fld.cells) (W := fun f => f.type.of.size ≤ 2 ^ 59) (fun r hr => h r hr)
    exact ⟨ls, rfl, hl⟩)
theorem rd_tab : ∀ n : Nat, Rd enc Tryz.prog W n 50 fun l => ∃ t : Tab, l = t.cells ∧ t.Fits
  | 0 => Rd.zero _ _
  | n + 1 => (Rd.struct Tryz.underlying50 (by kernel_rfl) (.cons (rd_str n) (.cons (rd_str n) (.cons (rd_flds n) (.cons (rd_int n) .nil))))).mono (by
    rintro _ ⟨_, _, rfl, ⟨a, rfl, ha⟩, _, _, rfl, ⟨b, rfl, hb⟩, _, _, rfl, ⟨fs, rfl, hf⟩, _, _, rfl, ⟨k, rfl⟩, rfl⟩
    exact ⟨⟨a, b, fs, k⟩, rfl, Nat.le_trans ha (by decide), Nat.le_trans hb (by decide), hf⟩)
theorem rd_fea : ∀ n : Nat, Rd enc Tryz.prog W n 53 fun l => ∃ f : Fea, l = f.cells ∧ f.Fits
  | 0 => Rd.zero _ _
  | n + 1 => (Rd.struct Tryz.underlying53 (by kernel_rfl) (.cons (rd_str n) (.cons (rd_str n) (.cons (rd_type n) (.cons (rd_ex n) (.cons (rd_int n) .nil)))))).mono (by
    rintro _ ⟨_, _, rfl, ⟨a, rfl, ha⟩, _, _, rfl, ⟨b, rfl, hb⟩, _, _, rfl, ⟨t, rfl, ht⟩, _, _, rfl, ⟨x, rfl, hx⟩, _, _, rfl, ⟨v, rfl⟩, rfl⟩
    exact ⟨⟨a, b, t, x, v⟩, by rw [Fea.cells_row, Ex.row_eq x]; rfl, Nat.le_trans ha (by decide), Nat.le_trans hb (by decide), Nat.le_trans ht (by decide), hx⟩)
end
end Go.Proofs.YtklncofkcfjkeaaGreatDoor
