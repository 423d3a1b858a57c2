/- Wide numbers: sums. -/
import Derived.Test.YtekngilbecjkhaaGreatDoorCd
import Derived.Laws.Externs
import Derived.Shelf.Spec.BitsCarry
import Derived.Test.YtekngilbecjkhaaGreatDoorGa
import Derived.Test.YtekngilbecjkhaaGreatDoorFa
import Derived.RegionTactic
import Derived.OwnWalk
import Derived.Test.YtekngilbecjkhaaGreatDoorHa
import Derived.Test.YtekngilbecjkhaaGreatDoorCr
import Derived.Sort.OwnSorted
import Derived.Lib.SliceRun
set_option linter.unusedSimpArgs false
set_option linter.unusedVariables false
set_option linter.unusedSectionVars false
set_option maxRecDepth 100000
set_option maxHeartbeats 4000000
namespace Go.Proofs.YtekngilbecjkhaaGreatDoor
open Go.RowKit Go.Proofs Go.Tb
theorem add64 (x y c : Int) (hx : 0 ≤ x) (hy : 0 ≤ y) (hc0 : 0 ≤ c) (hc : c ≤ 1) (w : World) : (callFunc 197 #[.int .u64 x, .int .u64 y, .int .u64 c]).run Tryz.prog w =
    .ok (.value (.tuple #[.int .u64 ((x + y + c) % 18446744073709551616), .int .u64 ((x + y + c) / 18446744073709551616)])) w := by
  rw [run_callFunc_extern Tryz.func197 (by kernel_rfl) (by kernel_rfl) (by kernel_rfl) (e := add64Entry) (by kernel_rfl), run_add64 x y c hx hy hc0 hc]
  rfl
theorem add64_0 (x y : Int) (hx : 0 ≤ x) (hy : 0 ≤ y) (w : World) : (callFunc 197 #[.int .u64 x, .int .u64 y, .int .u64 0]).run Tryz.prog w =
    .ok (.value (.tuple #[.int .u64 ((x + y) % 18446744073709551616), .int .u64 ((x + y) / 18446744073709551616)])) w := by
  rw [add64 x y 0 hx hy (by omega) (by omega), Int.add_zero]
def loW (n : Int) : Int := n % 18446744073709551616
def hiW (n : Int) : Int := if n < 0 then -1 else 0
abbrev wv (n : Int) : Value := .agg #[.int .i64 (hiW n), .int .u64 (loW n)]
theorem add_calls (n m : Int) (w : World) (hn : -1000 ≤ n ∧ n ≤ 1000) (hm : -1000 ≤ m ∧ m ≤ 1000) : Calls Tryz.prog 188 #[wv n, wv m] w fun e w' => e = .returned (wv (n + m)) ∧ Below w.heap.size w w' := by
  have h1 : 0 ≤ loW n := by unfold loW; omega
  have h2 : 0 ≤ loW m := by unfold loW; omega
  generalize hln : loW n = ln at *
  generalize hlm : loW m = lm at *
  generalize hhn : hiW n = hn' at *
  generalize hhm : hiW m = hm' at *
  go_enter Tryz.func188, Tryz.ntmps188
  have e1 := add64_0 ln lm h1 h2
  have w1 : 0 ≤ IntKind.u64.wrap hn' := by rw [IntKind.wrap_u64]; omega
  have w2 : 0 ≤ IntKind.u64.wrap hm' := by rw [IntKind.wrap_u64]; omega
  have e2 := add64 (IntKind.u64.wrap hn') (IntKind.u64.wrap hm') ((ln + lm) / 18446744073709551616) w1 w2 (by omega) (by rw [← hln, ← hlm]; unfold loW; omega)
  have hlo : (ln + lm) % 18446744073709551616 = loW (n + m) := by rw [← hln, ← hlm]; unfold loW; omega
  have hhi : IntKind.i64.wrap ((IntKind.u64.wrap hn' + IntKind.u64.wrap hm' + (ln + lm) / 18446744073709551616) % 18446744073709551616) = hiW (n + m) := by
    rw [← hln, ← hlm, ← hhn, ← hhm, IntKind.wrap_u64, IntKind.wrap_u64, IntKind.wrap_i64]
    unfold loW hiW
    split <;> split <;> split <;> omega
  go_wp2
  simp [bodyPost, results, Tryz.results188, go_sem, hhi]
  exact (((Below.refl _ w).alloc (Nat.le_refl _) _).alloc (by simp) _).alloc (by simp; omega) _
theorem sub64 (x y b : Int) (hx : 0 ≤ x) (hy : 0 ≤ y) (hy2 : y < 18446744073709551616) (hb0 : 0 ≤ b) (hb : b ≤ 1) (w : World) : (callFunc 214 #[.int .u64 x, .int .u64 y, .int .u64 b]).run Tryz.prog w =
    .ok (.value (.tuple #[.int .u64 ((x - y - b) % 18446744073709551616), .int .u64 (if x < y + b then 1 else 0)])) w := by
  obtain ⟨X, rfl⟩ := Int.eq_ofNat_of_zero_le hx
  obtain ⟨Y, rfl⟩ := Int.eq_ofNat_of_zero_le hy
  obtain ⟨B, rfl⟩ := Int.eq_ofNat_of_zero_le hb0
  rw [run_callFunc_extern Tryz.func214 (by kernel_rfl) (by kernel_rfl) (by kernel_rfl) (e := sub64Entry) (by kernel_rfl), run_sub64 X Y B (by omega)]
  have e1 : (((X + 18446744073709551616 - Y - B) % 18446744073709551616 : Nat) : Int) = ((X : Int) - Y - B) % 18446744073709551616 := by omega
  have e2 : ((if X < Y + B then 1 else 0 : Nat) : Int) = if (X : Int) < Y + B then 1 else 0 := by
    by_cases h : X < Y + B
    · rw [if_pos h, if_pos (by omega)]; rfl
    · rw [if_neg h, if_neg (by omega)]; rfl
  rw [e1, e2]
  rfl
end Go.Proofs.YtekngilbecjkhaaGreatDoor

/- Wide numbers: sizes, quotients by one. -/
set_option linter.unusedSimpArgs false
set_option linter.unusedVariables false
set_option linter.unusedSectionVars false
set_option maxRecDepth 100000
set_option maxHeartbeats 4000000
namespace Go.Proofs.YtekngilbecjkhaaGreatDoor
open Go.RowKit Go.Proofs Go.Tb
theorem size_calls (n : Int) (w : World) (hn : -1000 ≤ n ∧ n ≤ 1000) : Calls Tryz.prog 198 #[wv n] w fun e w' => e = .returned (.agg #[.int .u64 n.natAbs, .int .u64 0]) ∧ Below w.heap.size w w' := by
  by_cases h0 : n < 0
  · have hh : hiW n = -1 := if_pos h0
    have hl : loW n = n + 18446744073709551616 := by unfold loW; omega
    have e1 := sub64 0 (n + 18446744073709551616) 0 (by omega) (by omega) (by omega) (by omega) (by omega)
    rw [if_pos (by omega), show ((0 : Int) - (n + 18446744073709551616) - 0) % 18446744073709551616 = n.natAbs by omega] at e1
    have e2 := sub64 0 18446744073709551615 1 (by omega) (by omega) (by omega) (by omega) (by omega)
    rw [if_pos (by omega), show ((0 : Int) - 18446744073709551615 - 1) % 18446744073709551616 = 0 by omega] at e2
    have hw : IntKind.u64.wrap (-1) = 18446744073709551615 := by rw [IntKind.wrap_u64]; rfl
    rw [← hw] at e2
    clear hw
    show Calls Tryz.prog 198 #[.agg #[.int .i64 (hiW n), .int .u64 (loW n)]] w _
    rw [hh, hl]
    clear hh hl
    go_enter Tryz.func198, Tryz.ntmps198
    go_wp2
    simp [bodyPost, results, Tryz.results198, go_sem]
    rename_i a
    refine a _ _ ?_
    go_wp2
    simp [bodyPost, results, Tryz.results198, go_sem]
    rename_i a2 q k1 k0
    refine a2 _ _ ?_
    go_wp2
    simp [bodyPost, results, Tryz.results198, go_sem]
    exact (((((((Below.refl _ w).alloc (Nat.le_refl _) _).alloc (by simp) _).alloc (by simp; omega) _).alloc (by simp; omega) _).alloc (by simp; omega) _).alloc (by simp; omega) _).alloc (by simp; omega) _
  · have hh : hiW n = 0 := if_neg h0
    have hl : loW n = n.natAbs := by unfold loW; omega
    show Calls Tryz.prog 198 #[.agg #[.int .i64 (hiW n), .int .u64 (loW n)]] w _
    rw [hh, hl]
    clear hh hl
    go_enter Tryz.func198, Tryz.ntmps198
    go_wp2
    simp [bodyPost, results, Tryz.results198, go_sem]
    exact ((Below.refl _ w).alloc (Nat.le_refl _) _).alloc (by simp) _
end Go.Proofs.YtekngilbecjkhaaGreatDoor

/- Wide numbers as contracts of the layer. -/
set_option linter.unusedSimpArgs false
set_option linter.unusedVariables false
set_option linter.unusedSectionVars false
set_option maxRecDepth 100000
set_option maxHeartbeats 4000000
namespace Go.Proofs.YtekngilbecjkhaaGreatDoor
section
open Go.RowKit Go.Proofs Go.Tb
theorem div_calls (x : Int) (w : World) (hx : 0 ≤ x) (hx2 : x < 18446744073709551616) : Calls Tryz.prog 199 #[.int .u64 0, .int .u64 x, .int .u64 1] w fun e w' => e = .returned (.tuple #[.int .u64 x, .int .u64 0]) ∧ Below w.heap.size w w' := by
  go_enter Tryz.func199, Tryz.ntmps199
  go_wp2
  go_region
  all_goals go_wp2
  all_goals go_ret2
  refine ⟨?_, ?_⟩
  · rfl
  · exact (Below.refl _ _).drew
end
open Go.Sx Go.Proofs Go.Tb
abbrev wA (n : Int) : AV := .agg [iv (hiW n), .v (.int .u64 (loW n))]
theorem of_wA {M : Mem} {n : Int} {v : Value} (h : R M (wA n) v) : v = wv n := by
  obtain ⟨cs, rfl, hl⟩ := h.of_agg
  obtain ⟨a, as', rfl, h1, h2⟩ := hl.uncons
  obtain ⟨b, rfl, h3⟩ := h2.un1
  rw [h1.of_v, h3.of_v]
theorem r_wA {M : Mem} (n : Int) : R M (wA n) (wv n) := .agg _ [.int .i64 (hiW n), .int .u64 (loW n)] rfl fun i h1 h2 => by
  match i with
  | 0 => exact .v _
  | 1 => exact .v _
theorem addC_ok {n m : Int} (hn : -1000 ≤ n ∧ n ≤ 1000) (hm : -1000 ≤ m ∧ m ≤ 1000) : Pure Tryz.prog 188 [wA n, wA m] (wA (n + m)) :=
  Pure.shelf fun M w0 w σ cs hI hR => by
    obtain ⟨a, as', rfl, h1, h2⟩ := hR.uncons
    obtain ⟨b, rfl, h3⟩ := h2.un1
    rw [of_wA h1, of_wA h3]
    exact (add_calls n m w hn hm).mono fun e w' ⟨h, hb⟩ => ⟨⟨_, h, r_wA _⟩, hb⟩
abbrev szA (n : Int) : AV := .agg [.v (.int .u64 n.natAbs), .v (.int .u64 0)]
theorem sizeW_ok {n : Int} (hn : -1000 ≤ n ∧ n ≤ 1000) : Pure Tryz.prog 198 [wA n] (szA n) :=
  Pure.shelf fun M w0 w σ cs hI hR => by
    obtain ⟨a, rfl, h1⟩ := hR.un1
    rw [of_wA h1]
    exact (size_calls n w hn).mono fun e w' ⟨h, hb⟩ => ⟨⟨_, h, .agg _ [.int .u64 n.natAbs, .int .u64 0] rfl fun i h1 h2 => by
      match i with
      | 0 => exact .v _
      | 1 => exact .v _⟩, hb⟩
theorem ofC_ok {n : Int} (hn : -1000 ≤ n ∧ n ≤ 1000) : Pure Tryz.prog 189 [iv n] (wA n) := by
  refine Pure.runk (fun _ => 0) Tryz.func189 comp189 era189 (Nat.le_of_ble_eq_true rfl) fun σ => ?_
  repeat' (first | exact .nil | refine .k0 ?_ | refine .k1 ?_ | refine .k2 ?_ | refine .k7 ?_ | refine .r1 ?_ ?_ | (refine .l1 ?_; intro b) | fail)
  try any_goals ((intro hob; fail))
  all_goals (try simp only [BL] at *)
  · decide
  · rw [show n / 2 ^ Int.toNat 63 = hiW n by show n / 9223372036854775808 = _; unfold hiW; split <;> omega, show IntKind.u64.wrap n = loW n from IntKind.wrap_u64 n]
    (refine Sx.Fin.wk (by repeat' first | exact .refl _ | refine .cons ?_) ?_; repeat' first | exact .refl _ | fail)
theorem divB_ok {x : Int} (hx : 0 ≤ x) (hx2 : x < 18446744073709551616) : Pure Tryz.prog 199 [.v (.int .u64 0), .v (.int .u64 x), .v (.int .u64 1)] (.tup [.v (.int .u64 x), .v (.int .u64 0)]) :=
  Pure.shelf fun M w0 w σ cs hI hR => by
    obtain ⟨a, as', rfl, h1, h2⟩ := hR.uncons
    obtain ⟨b, bs', rfl, h3, h4⟩ := h2.uncons
    obtain ⟨c, rfl, h5⟩ := h4.un1
    rw [h1.of_v, h3.of_v, h5.of_v]
    exact (div_calls x w hx hx2).mono fun e w' ⟨h, hb⟩ => ⟨⟨_, h, .tup _ [.int .u64 x, .int .u64 0] rfl fun i h1 h2 => by
      match i with
      | 0 => exact .v _
      | 1 => exact .v _⟩, hb⟩
theorem OpP_ixa {x i : Operand} {ty : TypeId} {a b : Int} : OpP Tryz.prog (.index 201 x i) ty [] [x, i] [.agg [.v (.int .u64 a), .v (.int .u64 b)], .v (.int .i64 0)] (.v (.int .u64 a)) := ⟨fun σ hti M w0 w ρ hI hR => by
  obtain ⟨v1, vs1, e1, h1, hR1⟩ := hR.uncons
  obtain ⟨v2, e2, h2⟩ := hR1.un1
  subst e2
  simp only [List.map_cons, List.map_nil, List.cons.injEq, and_true] at e1
  obtain ⟨cs, rfl, hl⟩ := h1.of_agg
  obtain ⟨p, ps, rfl, g1, g2⟩ := hl.uncons
  obtain ⟨q, rfl, g3⟩ := g2.un1
  have hu := Tryz.underlying201
  have h64 := Tryz.underlying159
  refine ⟨.value (.int .u64 a), w, M, .v (.int .u64 a), .int .u64 a, σ, ?_, rfl, Mem.le.refl _, hI, .v _, rfl, rfl⟩
  simp [execOp, e1.1, e1.2, Instr.index, asIntOf, h2.of_v, g1.of_v, run_under hu, part, isAgg, run_under h64]⟩
theorem divideC_ok {n : Int} (hn : -1000 ≤ n ∧ n ≤ 1000) : Pure Tryz.prog 191 [wA n, iv 1] (.tup [iv n, .v (.bool true)]) := by
  have hS := sizeW_ok hn
  have hO1 := ofC_ok (n := 1) (by omega)
  have hS1 := sizeW_ok (n := 1) (by omega)
  have hD := divB_ok (x := n.natAbs) (by omega) (by omega)
  refine Pure.runk (fun _ => 0) Tryz.func191 comp191 era191 (Nat.le_of_ble_eq_true rfl) fun σ => ?_
  repeat' (first | exact .nil | refine .k0 ?_ | refine .k1 ?_ | refine .k2 ?_ | refine .k7 ?_ | refine .k9 ?_ | (refine .cd ?_ ?_ <;> (intro hc; skip)) | refine .r1 ?_ ?_ | (refine .m1 ?_ ?_; intro b) | refine .an rfl (by intro hob; first | exact hS | exact hO1 | exact hS1 | fail) ?_ ?_ | fail)
  try any_goals ((intro hob; fail))
  all_goals (try simp only [BL] at *)
  · exact absurd hc (by decide)
  refine VX_extq rfl (fun _ => OpP_ixa) OB.nil ?_
  repeat' (first | exact .nil | refine .k0 ?_ | refine .k1 ?_ | refine .k2 ?_ | refine .k4 ?_ | refine .k7 ?_ | refine .k9 ?_ | (refine .cd ?_ ?_ <;> (intro hc; first | exact kt hc (by assumption) | skip)) | refine .r1 ?_ ?_ | (refine .l1 ?_; intro b) | refine .an rfl (by intro hob; exact hD) ?_ ?_ | fail)
  · exact ⟨by decide, by decide⟩
  · exact absurd hc (by decide)
  · exact ⟨by decide, by decide⟩
  · exact ⟨by decide, by decide⟩
  · intro _; decide
  · have := of_decide_eq_true hc; omega
  · have hlt : n < 0 := by
      by_cases h : n < 0
      · exact h
      · rw [show hiW n = 0 from if_neg h] at hc; exact absurd hc (by decide)
    rw [i64w (n := (n.natAbs : Int)) (by omega), i64w (by omega), show (0 : Int) - n.natAbs = n by omega]
    (refine Sx.Fin.wk (by repeat' first | exact .refl _ | refine .cons ?_) ?_; repeat' first | exact .refl _ | fail)
  · have hlt : 0 ≤ n := by
      by_cases h : n < 0
      · rw [show hiW n = -1 from if_pos h] at hc; exact absurd hc (by decide)
      · omega
    rw [i64w (n := (n.natAbs : Int)) (by omega), show (n.natAbs : Int) = n by omega]
    (refine Sx.Fin.wk (by repeat' first | exact .refl _ | refine .cons ?_) ?_; repeat' first | exact .refl _ | fail)
end Go.Proofs.YtekngilbecjkhaaGreatDoor

/- The layer: a look-up in a region of open order; maps from names to wide numbers. -/
set_option linter.unusedSimpArgs false
set_option linter.unusedVariables false
set_option linter.unusedSectionVars false
set_option maxRecDepth 100000
set_option maxHeartbeats 1000000
namespace Go.Sx
open Go.RowKit
section
variable {P : Program} [Glob P] {N : Nat} {cfg : Nat → Nat} {rg : Regs} {σ : Store}
def LkS (P : Program) [Glob P] (cfg : Nat → Nat) (K : Regs → Store → Prop) (c : CI) (l2 : List CI) (rg : Regs) (σ : Store) : Prop := ∃ x, QV P cfg c rg σ x ∧ vcM P cfg [] (bare l2) (Cl K) (putR c.d x rg) σ
theorem SW_dregL {l1 l2 : List CI} {c : CI} {Q : Exit → Regs → Store → Prop} (cfg : Nat → Nat) (hc1 : c.op.cls ≤ 1) (h : vcM P cfg [] (bare l1) (LkS P cfg (Q .normal) c l2) rg σ) : SW P N (.dreg (l1 ++ c :: l2)) Q rg σ := by
  refine SW_cl (SW_chain cfg fun hc => ?_)
  obtain ⟨xs, h1, ⟨rg1, ⟨x, hq, hv⟩, h3⟩, h4⟩ := vcM_chainK l1 rg rg (fun _ => rfl) (fun c h => hc c (by simp [h])) h
  have hcl1 := vcM_cls l1 rg (fun c h => hc c (by simp [h])) h
  have hcl2 := vcM_cls l2 _ (fun c h => hc c (by simp [h])) hv
  have hq' : QV P cfg c (puts l1 xs rg) σ x := QV_local (fun t _ => h3 t) hq
  obtain ⟨ys, g1, ⟨rgF, k1, k2⟩, g3⟩ := vcM_chain l2 _ (putR c.d x (puts l1 xs rg)) (lk_put_congr h3 c.d x) (fun c h => hc c (by simp [h])) hv
  refine ⟨⟨xs ++ x :: ys, by simp [h1, g1], ⟨rgF, k1, fun i => ?_⟩, fun i h h' => ?_⟩, fun c' hc' => ?_⟩
  · rw [puts_append _ _ _ _ _ h1]; exact k2 i
  · rcases Nat.lt_trichotomy i l1.length with hi | hi | hi
    · have := h4 i hi (by omega)
      simp only [List.getElem_append_left hi, List.getElem_append_left (show i < xs.length by omega), List.take_append_of_le_length (show i ≤ l1.length by omega), List.take_append_of_le_length (show i ≤ xs.length by omega)]
      exact this
    · subst hi
      have hz := h'
      have e1 : (l1 ++ c :: l2)[l1.length] = c := by simp
      have e2 : (xs ++ x :: ys)[l1.length]'hz = x := by simp [← h1]
      have e3 : (l1 ++ c :: l2).take l1.length = l1 := by simp
      have e4 : (xs ++ x :: ys).take l1.length = xs := by rw [← h1]; simp
      rw [e1, e2, e3, e4]
      exact hq'
    · obtain ⟨m, hm⟩ : ∃ m, i = l1.length + 1 + m := ⟨i - (l1.length + 1), by omega⟩
      subst hm
      have hml : m < l2.length := by simp at h; omega
      have hz := h'
      have hmy : m < ys.length := by omega
      have e1 : (l1 ++ c :: l2)[l1.length + 1 + m] = l2[m] := by
        rw [List.getElem_append_right (by omega)]
        simp only [show l1.length + 1 + m - l1.length = m + 1 by omega, List.getElem_cons_succ]
      have e2 : (xs ++ x :: ys)[l1.length + 1 + m]'hz = ys[m] := by
        rw [List.getElem_append_right (by omega)]
        simp only [show l1.length + 1 + m - xs.length = m + 1 by omega, List.getElem_cons_succ]
      have e3 : (l1 ++ c :: l2).take (l1.length + 1 + m) = l1 ++ c :: l2.take m := by
        rw [List.take_append, List.take_of_length_le (by omega), show l1.length + 1 + m - l1.length = m + 1 by omega]; rfl
      have e4 : (xs ++ x :: ys).take (l1.length + 1 + m) = xs ++ x :: ys.take m := by
        rw [List.take_append, List.take_of_length_le (by omega), show l1.length + 1 + m - xs.length = m + 1 by omega]; rfl
      rw [e1, e2, e3, e4, puts_append _ _ _ _ _ h1]
      exact g3 m hml hmy
  · rcases List.mem_append.1 hc' with hm | hm
    · exact hcl1 c' hm
    · rcases List.mem_cons.1 hm with rfl | hm
      · exact hc1
      · exact hcl2 c' hm
end
section
variable {P : Program} [Glob P] {N : Nat} {cfg : Nat → Nat} {Q : Exit → Regs → Store → Prop} {rg : Regs} {σ : Store} {k : List Fr} {xr : XR}
theorem WK_dregL (d : Nat) {l l1 l2 : List CI} {s : CI} (hl : splitD d l = some (l1, s, l2)) (hs : Nat.ble s.op.cls 1 = true) (hx : toXO rg = some xr)
    (h : VY P cfg [] (bare l1) (LkS P cfg (FK P N cfg Q .normal k) s l2) xr σ) : WK P N cfg Q (.dreg l) k rg σ := by
  have e := splitD_eq hl
  subst e
  refine ⟨WA.mono (Q := fun e => FK P N cfg Q e k) ⟨rfl, SW_dregL cfg (Nat.le_of_ble_eq_true hs) ?_⟩ fun _ _ _ h => h.h⟩
  have := h.h
  rw [← toXO_eq hx, den_toX] at this
  exact this
end
end Go.Sx
namespace Go.Proofs.YtekngilbecjkhaaGreatDoor
open Go.Sx Go.Proofs Go.Tb Go.RowKit
def getW : List (Str × Int) → Str → Int
  | [], _ => 0
  | p :: es, s => if p.1 = s then p.2 else getW es s
def putW : List (Str × Int) → Str → Int → List (Str × Int)
  | [], s, v => [(s, v)]
  | p :: es, s, v => if p.1 = s then (s, v) :: es else p :: putW es s v
def wE (es : List (Str × Int)) : List (Value × Nat × AV) := es.zipIdx.map fun p => (.string p.1.1, p.2, wA p.1.2)
theorem wE_keys (es : List (Str × Int)) : (wE es).map (fun e => (e.1, e.2.1)) = es.zipIdx.map fun q => (Value.string q.1.1, q.2) := by unfold wE; rw [List.map_map]; rfl
theorem wE_vals (es : List (Str × Int)) : (wE es).map (·.2.2) = es.map fun p => wA p.2 := by
  unfold wE
  rw [List.map_map]
  refine List.ext_getElem (by simp) fun j h1 h2 => by simp
theorem wE_snoc (es : List (Str × Int)) (p : Str × Int) : wE es ++ [(.string p.1, es.length, wA p.2)] = wE (es ++ [p]) := by
  unfold wE; rw [List.zipIdx_append]; simp
theorem ws_find (s : Str) : ∀ (es : List (Str × Int)) (l : List MapEntry) (k0 i : Nat), l.map (fun e => (e.key, e.born)) = (es.zipIdx k0).map (fun q => (Value.string q.1.1, q.2)) →
    (Instr.findNow .string (.string s) l i = some none ∧ getW es s = 0 ∧ ∀ v, putW es s v = es ++ [(s, v)]) ∨
    ∃ j, ∃ hj : j < es.length, ∃ hj' : j < l.length, Instr.findNow .string (.string s) l i = some (some (i + j, l[j].val)) ∧ es[j].1 = s ∧ getW es s = es[j].2 ∧ l[j].key = .string s ∧ ∀ v, putW es s v = es.set j (s, v)
  | [], l, k0, i, h => by
    have : l = [] := by simpa using h
    subst this
    exact .inl ⟨rfl, rfl, fun _ => rfl⟩
  | p :: es, l, k0, i, h => by
    cases l with
    | nil => simp at h
    | cons e l =>
      simp only [List.zipIdx_cons, List.map_cons, List.cons.injEq, Prod.mk.injEq] at h
      have hsn : Instr.sameNow .string (.string s) e.key = some (decide (s = p.1)) := by
        rw [h.1.1]
        show some (s == p.1) = _
        rw [str_beq]
      by_cases hp : s = p.1
      · subst hp
        refine .inr ⟨0, by simp, by simp, ?_, rfl, by simp [getW], h.1.1, fun v => by simp [putW]⟩
        simp only [Instr.findNow, hsn, decide_true, Nat.add_zero, List.getElem_cons_zero]
      · have hp' : ¬ p.1 = s := fun e => hp e.symm
        rcases ws_find s es l (k0 + 1) (i + 1) h.2 with ⟨a1, a2, a3⟩ | ⟨j, hj, hj', a1, a2, a3, a4, a5⟩
        · refine .inl ⟨?_, by simp [getW, hp', a2], fun v => by simp [putW, hp', a3]⟩
          simp only [Instr.findNow, hsn, decide_eq_false hp]
          exact a1
        · refine .inr ⟨j + 1, by simp; omega, by simp; omega, ?_, by simpa using a2, by simp [getW, hp', a3], by simpa using a4, fun v => by simp [putW, hp', a5]⟩
          simp only [Instr.findNow, hsn, decide_eq_false hp]
          rw [a1, show i + 1 + j = i + (j + 1) by omega]; simp
theorem zero_wide (w : World) : (zeroValue 188).run Tryz.prog w = .ok (wv 0) w := by
  have h : (Tryz.prog.info? 188).map (fun i => i.zero) = some (some (wv 0)) := by kernel_rfl
  obtain ⟨i, h1, h2⟩ := Option.map_eq_some_iff.1 h
  simp [zeroValue, typeInfo, h1, h2]
theorem ws_check (w : World) (b : Bool) (s : Str) : (Instr.checkKey b 10000 9 (.string s)).run Tryz.prog w = .ok () w :=
  Sx.run_checkKey (n := 9999) (q := .str) (kd := .string) rfl Tryz.underlying9
section
variable {M : Mem} {w0 w : World} {σ : Store}
theorem OpS_lkw {tg b clk : Nat} {es : List (Str × Int)} {t ty : TypeId} {q : TI} {m k : Operand} {s : Str} (hl : lkt σ tg = some (b, .map (wE es) clk)) :
    OpS Tryz.prog (.lookup t m k false) ty [.mp 9 188, q] [m, k] [.mpt tg b, sv s] σ fun y σ' => y = wA (getW es s) ∧ σ' = σ := by
  intro hti M w0 w ρ hI hR
  simp only [opInfo, List.cons.injEq, and_true] at hti
  have ht := tiOf_mp hti.1
  have hk := Tryz.underlying9
  obtain ⟨v1, vs1, e1, h1, hR1⟩ := hR.uncons
  obtain ⟨v2, e2, h2⟩ := hR1.un1
  subst e2
  simp only [List.map_cons, List.map_nil, List.cons.injEq, and_true] at e1
  obtain ⟨hM, l, hh, hkeys, hvals⟩ := hI.getMap hl
  have g1 := h1.of_mpt
  have g2 := h2.of_v
  subst g1 g2
  rw [wE_keys] at hkeys
  rw [wE_vals] at hvals
  rcases ws_find s es l 0 0 hkeys with ⟨a1, a2, a3⟩ | ⟨j, hj, hj', a1, a2, a3, a4, a5⟩
  · refine ⟨.value (wv 0), w, M, wA (getW es s), wv 0, σ, ?_, rfl, Mem.le.refl _, hI, by rw [a2]; exact r_wA 0, rfl, rfl⟩
    simp only [execOp, e1.1, e1.2, Instr.lookup, Sem.run_bind, run_under ht, Result.andThen_ok, getObj, Sem.run, hh, ws_check, Instr.findKey, run_under hk, a1, Sem.run_pure, zero_wide]
    rfl
  · refine ⟨.value l[j].val, w, M, wA (getW es s), l[j].val, σ, ?_, rfl, Mem.le.refl _, hI, ?_, rfl, rfl⟩
    · simp only [execOp, e1.1, e1.2, Instr.lookup, Sem.run_bind, run_under ht, Result.andThen_ok, getObj, Sem.run, hh, ws_check, Instr.findKey, run_under hk, a1, Sem.run_pure]
      rfl
    · have := hvals.2 j (by simpa using hj) (by simpa using hj')
      rw [a3]
      simpa using this
theorem ws_stays (w : World) (s : Str) : (Instr.keyThatStays (.string s) (.string s)).run Tryz.prog w = .ok (.string s) w := by
  simp [Instr.keyThatStays, Instr.sameBits, str_beq]
theorem OpS_upw {tg b : Nat} {es : List (Str × Int)} {t ty : TypeId} {q : TI} {m k x : Operand} {s : Str} {v : Int} (hl : lkt σ tg = some (b, .map (wE es) es.length)) :
    OpS Tryz.prog (.mapUpdate t m k x) ty [.mp 9 188, q] [m, k, x] [.mpt tg b, sv s, wA v] σ fun y σ' => y = .v undef ∧ σ' = upt σ tg b (.map (wE (putW es s v)) (putW es s v).length) := by
  intro hti M w0 w ρ hI hR
  simp only [opInfo, List.cons.injEq, and_true] at hti
  have ht := tiOf_mp hti.1
  have hk := Tryz.underlying9
  obtain ⟨v1, vs1, e1, h1, hR1⟩ := hR.uncons
  obtain ⟨v2, vs2, e2, h2, hR2⟩ := hR1.uncons
  obtain ⟨v3, e3, h3⟩ := hR2.un1
  subst e3 e2
  simp only [List.map_cons, List.map_nil, List.cons.injEq, and_true] at e1
  obtain ⟨hM, l, hh, hkeys, hvals⟩ := hI.getMap hl
  have g1 := h1.of_mpt
  have g2 := h2.of_v
  subst g1 g2
  have hlt : b < w.heap.size := (Array.getElem?_eq_some_iff.1 hh).1
  have hkeys' := hkeys
  have hvals' := hvals
  rw [wE_keys] at hkeys
  rw [wE_vals] at hvals
  rcases ws_find s es l 0 0 hkeys with ⟨a1, a2, a3⟩ | ⟨j, hj, hj', a1, a2, a3, a4, a5⟩
  · let w' : World := { w with heap := w.heap.setIfInBounds b (.map (l ++ [(⟨.string s, v3, es.length⟩ : MapEntry)]).toArray (es.length + 1)) }
    refine ⟨.skip, w', M, .v undef, undef, _, ?_, rfl, Mem.le.refl _, ?_, .v _, rfl, rfl⟩
    · have hu : l.toArray.push (⟨.string s, v3, es.length⟩ : MapEntry) = (l ++ [(⟨.string s, v3, es.length⟩ : MapEntry)]).toArray := by apply Array.ext'; simp
      simp only [execOp, e1.1, e1.2.1, e1.2.2, Instr.mapUpdate, Sem.run_bind, run_under ht, Result.andThen_ok, getObj, Sem.run, hh, ws_check, Instr.findKey, run_under hk, a1, Sem.run_pure, setObj, hu]
      rfl
    · rw [a3, List.length_append, List.length_singleton, ← wE_snoc]
      refine hI.upd (w' := w') (y := .map (wE es ++ [(.string s, es.length, wA v)]) (es.length + 1)) hl (fun k hk => ?_) rfl rfl rfl (by simp [w']) hM ⟨hM, l ++ [⟨.string s, v3, es.length⟩], ?_, ?_, ?_⟩
      · simp only [w']
        rw [Array.getElem?_setIfInBounds_ne (fun e => hk e.symm)]
      · simp only [w']
        rw [Array.getElem?_setIfInBounds_self_of_lt hlt]
      · simp [hkeys']
      · simp only [List.map_append, List.map_cons, List.map_nil]
        exact RL.append hvals' (RL.cons h3 RL.nil)
  · let f : MapEntry → MapEntry := fun e => { e with key := .string s, val := v3 }
    let w' : World := { w with heap := w.heap.setIfInBounds b (.map (l.modify j f).toArray es.length) }
    refine ⟨.skip, w', M, .v undef, undef, _, ?_, rfl, Mem.le.refl _, ?_, .v _, rfl, rfl⟩
    · have hu : l.toArray.modify j f = (l.modify j f).toArray := by simp
      have hkj : (l.toArray[j]?.map (·.key)).getD (.string s) = .string s := by
        rw [List.getElem?_toArray, List.getElem?_eq_getElem hj']; exact a4
      simp only [execOp, e1.1, e1.2.1, e1.2.2, Instr.mapUpdate, Sem.run_bind, run_under ht, Result.andThen_ok, getObj, Sem.run, hh, ws_check, Instr.findKey, run_under hk, a1, Sem.run_pure, setObj, Nat.zero_add, hkj, ws_stays, hu]
      show Result.ok Next.skip ({ w with heap := w.heap.setIfInBounds b (.map (l.toArray.modify j f) es.length) } : World) = _
      rw [hu]
    · rw [a5, List.length_set]
      refine hI.upd (w' := w') (y := .map (wE (es.set j (s, v))) es.length) hl (fun k hk => ?_) rfl rfl rfl (by simp [w']) hM ⟨hM, l.modify j f, ?_, ?_, ?_⟩
      · simp only [w']
        rw [Array.getElem?_setIfInBounds_ne (fun e => hk e.symm)]
      · simp only [w']
        rw [Array.getElem?_setIfInBounds_self_of_lt hlt]
      · rw [wE_keys]
        refine List.ext_getElem ?_ fun i g1 g2 => ?_
        · have := congrArg List.length hkeys; simpa using this
        · have h6 : i < l.length := by simpa using g1
          have h7 : i < es.length := by simpa using g2
          have h5 := congrArg (fun x => x[i]?) hkeys
          simp [h6, h7] at h5
          simp only [List.getElem_map, List.getElem_modify, List.getElem_zipIdx, List.getElem_set, Nat.zero_add]
          by_cases hij : j = i
          · subst hij
            simp [f, h5.2]
          · simp [hij, h5.1, h5.2]
      · rw [wE_vals]
        refine ⟨?_, fun i g1 g2 => ?_⟩
        · have := hvals.1; simpa using this
        · have h6 : i < l.length := by simpa using g2
          have h7 : i < es.length := by simpa using g1
          have h5 := hvals.2 i (by simpa using h7) (by simpa using h6)
          simp only [List.getElem_map, List.getElem_modify, List.getElem_set] at h5 ⊢
          by_cases hij : j = i
          · subst hij
            simpa [f] using h3
          · simpa [hij] using h5
end
section
variable {cfg : Nat → Nat} {K : Regs → Store → Prop} {E : List PanicEntry → Store → Prop} {σ σ' : Store} {l : List CI} {d : Nat} {xr : XR} {ps : List Prop} {og : Option Bool}
theorem VX_lkw {t : TypeId} {q : TI} {ty : TypeId} {m k : Operand} {tg b b' clk : Nat} {es : List (Str × Int)} {s : Str} (h : argO xr none [m, k] = some (og, [.mpt tg b, sv s], ps)) (hl : lkt σ tg = some (b', .map (wE es) clk)) (hb : b = b') (hps : OB ps)
    (kk : VX Tryz.prog cfg l K E ((d, .s (wA (getW es s))) :: xr) σ) : VX Tryz.prog cfg (⟨some d, .extq (.lookup t m k false) ty [.mp 9 188, q] [m, k], none⟩ :: l) K E xr σ := by
  obtain ⟨hc, he⟩ := argO_eq h
  have hog := argO_none h
  subst hog
  subst hb
  constructor
  simp only [vcX, vcG, vcO, he hps rfl]
  refine (OpS_lkw hl).mono fun y s ⟨e1, e2⟩ => ?_
  subst e1 e2
  exact kk.h
theorem VX_upw {t : TypeId} {q : TI} {ty : TypeId} {m k x : Operand} {tg b b' : Nat} {es : List (Str × Int)} {s : Str} {v : Int} (h : argO xr none [m, k, x] = some (og, [.mpt tg b, sv s, wA v], ps)) (hl : lkt σ tg = some (b', .map (wE es) es.length)) (hb : b = b') (hu : updS σ tg b (.map (wE (putW es s v)) (putW es s v).length) = some σ') (hps : OB ps)
    (kk : VX Tryz.prog cfg l K E xr σ') : VX Tryz.prog cfg (⟨none, .exts (.mapUpdate t m k x) ty [.mp 9 188, q] [m, k, x], none⟩ :: l) K E xr σ := by
  obtain ⟨hc, he⟩ := argO_eq h
  have hog := argO_none h
  subst hog
  subst hb
  constructor
  simp only [vcX, vcG, vcO, he hps rfl]
  refine (OpS_upw hl).mono fun y s ⟨e1, e2⟩ => ?_
  rw [updS_eq hu] at e2
  subst e1 e2
  exact kk.h
theorem VY_lkw {t : TypeId} {q : TI} {ty : TypeId} {m k : Operand} {tg b b' clk : Nat} {es : List (Str × Int)} {s : Str} {l2 : List CI} (h : argO xr none [m, k] = some (og, [.mpt tg b, sv s], ps)) (hl : lkt σ tg = some (b', .map (wE es) clk)) (hb : b = b') (hps : OB ps)
    (kk : VY Tryz.prog cfg [] (bare l2) (Cl K) ((d, .s (wA (getW es s))) :: xr) σ) : VY Tryz.prog cfg [] [] (LkS Tryz.prog cfg K ⟨some d, .extq (.lookup t m k false) ty [.mp 9 188, q] [m, k], none⟩ l2) xr σ := by
  obtain ⟨hc, he⟩ := argO_eq h
  have hog := argO_none h
  subst hog
  subst hb
  refine ⟨wA (getW es s), ?_, kk.h⟩
  unfold QV
  simp only [vcG, vcO, he hps rfl]
  exact OpS_lkw hl
end
end Go.Proofs.YtekngilbecjkhaaGreatDoor

/- units.sorted, walked. -/
set_option linter.unusedSimpArgs false
set_option linter.unusedVariables false
set_option linter.unusedSectionVars false
set_option maxRecDepth 100000
set_option maxHeartbeats 4000000
namespace Go.Proofs.YtekngilbecjkhaaGreatDoor
section
open Go.RowKit Go.Proofs Go.Tb Go.Maps Go.Sort
def wideElem (v : Value) : Option (DataW Unit × List MemPlace) := match v with
  | .agg cs => match cs.toList with
    | [.int .i64 h, .int .u64 l] => some (.agg [.lit (.int .i64 h), .lit (.int .u64 l)], [])
    | _ => none
  | _ => none
def wideV (c : Int × Int) : Value := .agg #[.int .i64 c.1, .int .u64 c.2]
theorem wideElem_inv {v : Value} {y : DataW Unit × List MemPlace} (h : wideElem v = some y) : ∃ c, v = wideV c := by
  unfold wideElem at h
  split at h
  · rename_i cs
    split at h
    · rename_i hh ll e
      exact ⟨(hh, ll), congrArg Value.agg (by apply Array.ext'; simpa using e)⟩
    · cases h
  · cases h
theorem sortedW_walk {w : World} {b n : Nat} {D : DataW Unit} (hown : w.ownsMap Tryz.prog 9 wideElem b n D) (hmax : Maps.size D ≤ 1000) : Calls Tryz.prog 190 #[.map (some b)] w fun e w' =>
    ∃ (v : Value) (ss : List (List UInt8)), e = .returned v ∧ ss.Perm (strKeys D) ∧ w'.ownsRow w.heap.size 9 1 v ss.length ((ss.mergeSort (fun x y => decide (x ≤ y))).map encStr) ∧ Below w.heap.size w w' := by
  obtain ⟨i0, hi, hz0, hz1, hz2⟩ := info_parts strInfo
  have hbl := hown.lt
  go_enter Tryz.func190, Tryz.ntmps190
  go_wp2_with (at_range; refine wpList_range_own _ rfl _ 186 rfl 9 188 (string_keyed Tryz.underlying9) Tryz.underlying186 _ b n _ rfl hown ?_; intro w0 hrg0 hg0 hs0)
  go_frame
  go_loopw [3] (fun v wr => ∃ (left : Lit → Bool) (cnt : Nat) (ss : List (List UInt8)), wr.ranges Tryz.prog 9 wideElem b w.heap.size n D left cnt ∧ ss.length + cnt ≤ Maps.size D ∧ wr.ownsRow w.heap.size 9 1 v ss.length (ss.map encStr) ∧ Collected D left ss ∧ Below w.heap.size w wr) (fun _ wr => wr.rangeLeft b w.heap.size)
  case atStart => exact ⟨_, _, [], hrg0, by simp, ⟨by simp, .inl ⟨rfl, rfl⟩⟩, Collected.start D, (Below.refl _ _).grown hg0 (Nat.le_refl _) (fun j hj => by cases hj)⟩
  obtain ⟨left, cnt, ss, hrg, hcs, hrow, hC, hnx⟩ := hrel
  go_wp2_with (at_next; refine wpList_next_ranges _ rfl _ rfl 9 (string_keyed Tryz.underlying9) wideElem encStr wideV (fun key kl hk => by obtain ⟨x, hx, _⟩ := Maps.keyOf_str Tryz.underlying9 hk; exact ⟨x, hx⟩) (fun v y hv => wideElem_inv hv) b w.heap.size n _ _ _ rfl hrg ?_ ?_)
  · intro hc0 hl0
    rcases hrow.2 with ⟨hnil, hn0⟩ | ⟨g, cap, cur, rfl, hbase, hb, h1, h2, h3, h4⟩
    · subst hnil
      have hss : ss = [] := List.eq_nil_of_length_eq_zero hn0
      subst hss
      have hc : Calls Tryz.prog 74 #[.slice none 0 0] wr _ := AnyM.slices_Sort_string_none Tryz.sort74 none 0 wr
      go_wp2_with (go_at_call 74; refine hc.mono ?_; rintro e w' ⟨rfl, rfl⟩)
      go_ret
      exact ⟨_, [], rfl, hC.perm hown (string_keyed Tryz.underlying9) Tryz.underlying9 hl0, (by rw [List.mergeSort_nil]; exact hrow), hnx⟩
    · have hH : Holds encStr wr g 0 ss.toArray := holds_of_block hb (by simpa using h4)
      have hgl : g < wr.heap.size := (Array.getElem?_eq_some_iff.1 hb).1
      have hc : Calls Tryz.prog 74 #[.slice (some ⟨g, 0, none⟩) ss.length cap] wr _ := AnyM.slices_Sort_string Tryz.sort74 g 0 cap ss wr hH hgl (by omega)
      go_wp2_with (go_at_call 74; refine hc.mono ?_; rintro e w' ⟨rfl, nn, os, rfl⟩)
      go_ret
      exact ⟨_, ss, rfl, hC.perm hown (string_keyed Tryz.underlying9) Tryz.underlying9 hl0, ownsRow_sorted (by simp) hbase hb h1 h2 h3, hnx.grown (grownBy_sorted _) hnx.size (fun j hj => by cases hj; exact hbase)⟩
  · intro x c1 c2 kl yd yp w2 cnt2 hkey hlk hv hat hrg2 hlt hg2 hs2 hen
    obtain ⟨x', ex, rfl, _⟩ := Maps.keyOf_str Tryz.underlying9 hkey
    obtain rfl : x = x' := encStr_inj ex
    have hrow2 := hrow.kept hg2 (Or.inr (row_ne_iter hrow hrg).symm)
    clear hs2
    go_wp2_with (at_builtin; refine wpList_append_own _ rfl _ _ 39 rfl w.heap.size 9 i0 (.string ⟨#[]⟩) 1 16 Tryz.underlying39 hi hz0 hz1 hz2 rfl (by decide) _ _ _ rfl (hrow2.alloc _) ⟨w2.heap.size, 0, none⟩ 1 1 [encStr x] rfl rfl (cell_one_new _ _ _) (by simp [Value.oneCell', encStr]) (by unfold maxLen at *; omega) (by omega) (by have := hnx.size; have := hg2.size; simp; omega) ?_; intro v' w3 hown' hg3 hnil3; go_frame)
    have hrg3 := (hrg2.alloc _).kept hg3 (row_ne_low hrow2 hbl) (row_ne_iter hrow2 hrg2)
    go_roundw
    case rel =>
      refine ⟨_, cnt2, ss ++ [x], hrg3, by simp; omega, by simpa using hown', hC.step hlk hat, ?_⟩
      exact ((hnx.grown hg2 hnx.size (fun j hj => by cases hj; exact Nat.le_refl _)).alloc (by have := hnx.size; have := hg2.size; omega) _).grown hg3 (by have := hnx.size; have := hg2.size; simp; omega) (fun j hj => (hrow2.lt j hj).1)
    case measure => rw [hrg3.left_eq, hrg.left_eq]; exact hlt
end
section
open Go.Sx Go.Proofs Go.Tb Go.RowKit Go.Maps
theorem wideElem_w {n : Int} : wideElem (wv n) = some (.agg [.lit (.int .i64 (hiW n)), .lit (.int .u64 (loW n))], []) := rfl
theorem wE_at {M : Mem} {l : List MapEntry} {es : List (Str × Int)} (hk : l.map (fun e => (e.key, e.born)) = (wE es).map (fun e => (e.1, e.2.1))) (hv : RL M ((wE es).map (·.2.2)) (l.map (·.val))) : l.length = es.length ∧ ∀ i (h : i < l.length) (h' : i < es.length), l[i].key = .string es[i].1 ∧ l[i].born = i ∧ l[i].val = wv es[i].2 := by
  rw [wE_keys] at hk
  rw [wE_vals] at hv
  refine ⟨by have := congrArg List.length hk; simpa using this, fun i h h' => ?_⟩
  have h5 := congrArg (fun x => x[i]?) hk
  simp [h, h'] at h5
  have h6 := hv.2 i (by simpa using h') (by simpa using h)
  simp only [List.getElem_map] at h6
  exact ⟨h5.1, h5.2, of_wA h6⟩
theorem wE_rd {e : MapEntry} {s : Str} {n : Int} (g1 : e.key = .string s) (g3 : e.val = wv n) (g4 : s.size ≤ maxLen) : WideElems.rd Tryz.prog 9 wideElem e = some (ky s, .agg [.lit (.int .i64 (hiW n)), .lit (.int .u64 (loW n))]) := by
  unfold WideElems.rd
  simp only [g1, g3, WideMaps.keyOf_string_mk Tryz.underlying9 g4, Option.bind_some, wideElem_w, Option.map_some]
  rfl
theorem wE_fit {l : List MapEntry} {es : List (Str × Int)} (hlen : l.length = es.length) (hat : ∀ i (h : i < l.length) (h' : i < es.length), l[i].key = .string es[i].1 ∧ l[i].born = i ∧ l[i].val = wv es[i].2) (hn : (es.map Prod.fst).Nodup) (hs : ∀ p ∈ es, p.1.size ≤ maxLen) (hl : es.length ≤ 1000) :
    WideElems.Fit Tryz.prog 9 wideElem l.toArray es.length := by
  refine ⟨by simp; unfold maxLen; omega, ⟨fun x hx => ?_, ?_, ?_⟩, fun x hx => ?_⟩
  · obtain ⟨i, hi, rfl⟩ := List.mem_iff_getElem.1 hx
    have hi' : i < l.length := by simpa using hi
    simp only []
    rw [(hat i hi' (by omega)).2.1]; omega
  · have e : l.toArray.toList.map (fun x => x.born) = List.range es.length := by
      refine List.ext_getElem (by simp [hlen]) fun i h1 h2 => ?_
      have hi' : i < l.length := by simpa using h1
      simp [(hat i hi' (by omega)).2.1]
    rw [e]; exact List.nodup_range
  · have e : l.toArray.toList.map (fun x => x.key) = (es.map Prod.fst).map Value.string := by
      refine List.ext_getElem (by simp [hlen]) fun i h1 h2 => ?_
      have hi' : i < l.length := by simpa using h1
      simp [(hat i hi' (by omega)).1]
    rw [e]
    exact List.pairwise_map.2 (hn.imp fun h e => h (by injection e))
  · obtain ⟨i, hi, rfl⟩ := List.mem_iff_getElem.1 hx
    have hi' : i < l.length := by simpa using hi
    obtain ⟨g1, g2, g3⟩ := hat i hi' (by omega)
    exact ⟨_, wE_rd g1 g3 (hs es[i] (List.getElem_mem (by omega)))⟩
theorem sortedW_ok {σ : Store} {tg b : Nat} {es : List (Str × Int)} (hl : lkt σ tg = some (b, .map (wE es) es.length)) (hn : (es.map Prod.fst).Nodup) (hs : ∀ p ∈ es, p.1.size ≤ maxLen) (hz : es.length ≤ 1000) :
    Sx.Spec Tryz.prog 190 [.mpt tg b] σ fun r σ' => r = .ret (strsV (sortL (es.map Prod.fst))) ∧ σ' = σ := by
  intro M w0 w cs hI hR
  obtain ⟨v, rfl, h1⟩ := RL.un1 hR
  have g1 := h1.of_mpt
  subst g1
  obtain ⟨hM, l, hh, hkeys, hvals⟩ := hI.getMap hl
  obtain ⟨hlen, hat⟩ := wE_at hkeys hvals
  have hF := wE_fit hlen hat hn hs hz
  have hown := World.ownsMap_of_fit (R := wideElem) hh hF (fun x _ z h => h)
  have hsz := hown.size_le
  have hsz2 : l.toArray.size ≤ 1000 := by simp; omega
  refine (sortedW_walk hown (by omega)).mono fun e w' ⟨v, ss, he, hp, hrow, hb⟩ => ?_
  have hk : ∀ s : Str, s.size ≤ maxLen → has (DataW.map (List.foldr DataW.insert [] (List.map (WideElems.rg Tryz.prog 9 wideElem) l.toArray.toList))) (ky s) = decide (s ∈ es.map Prod.fst) := fun s hs' => by
    rw [Bool.eq_iff_iff, has_eq, List.any_eq_true, decide_eq_true_iff]
    constructor
    · rintro ⟨p, hp, hsame⟩
      rw [mem_sorted] at hp
      obtain ⟨x, hx, rfl⟩ := List.mem_map.1 hp
      obtain ⟨i, hi, rfl⟩ := List.mem_iff_getElem.1 hx
      have hi' : i < l.length := by simpa using hi
      obtain ⟨g1, g2, g3⟩ := hat i hi' (by omega)
      have hrd := wE_rd g1 g3 (hs es[i] (List.getElem_mem (by omega)))
      have e := WideAt.sameKey_eq hsame
      unfold WideElems.rg at e
      simp only [List.getElem_toArray, hrd, Option.getD_some] at e
      have e2 := ky_inj e
      rw [← e2]
      exact List.mem_map.2 ⟨_, List.getElem_mem (by omega), rfl⟩
    · intro h
      obtain ⟨p, hp, rfl⟩ := List.mem_map.1 h
      obtain ⟨i, hi, rfl⟩ := List.mem_iff_getElem.1 hp
      obtain ⟨g1, g2, g3⟩ := hat i (by omega) hi
      have hrd := wE_rd g1 g3 (hs es[i] hp)
      refine ⟨WideElems.rg Tryz.prog 9 wideElem l[i], mem_sorted.2 (List.mem_map.2 ⟨l[i], by simp, rfl⟩), ?_⟩
      unfold WideElems.rg
      rw [hrd]
      exact WideAt.sameKey_self (ky_key _)
  obtain ⟨S, g1, g2, g3⟩ := sorted_names Tryz.underlying9 hown (L := es.map Prod.fst) (fun s h => by obtain ⟨p, hp, rfl⟩ := List.mem_map.1 h; exact hs p hp) hk hp hrow
  have hS : S = sortL (es.map Prod.fst) := srt_ext g1 (sortL_srt _) fun x => by rw [g2, sortL_mem]
  refine ⟨memN M w.heap.size w', .ret (strsV (sortL (es.map Prod.fst))), σ, memN_le hI, inv_new hI hb, ?_, rfl, rfl⟩
  subst he
  rw [← hS]
  exact names_R g3 (Nat.le_refl _)
end
end Go.Proofs.YtekngilbecjkhaaGreatDoor

/- units.Normal. -/
set_option linter.unusedSimpArgs false
set_option linter.unusedVariables false
set_option maxRecDepth 100000
set_option maxHeartbeats 4000000
namespace Go.Proofs.YtekngilbecjkhaaGreatDoor
open Go.Sx Go.Proofs Go.Tb
def addE (es : List (Str × Int)) (f : Fac) : List (Str × Int) := putW es f.name (getW es f.name + f.exp)
def sumE (l : List Fac) : List (Str × Int) := l.foldl addE []
theorem sumE_snoc {l : List Fac} {i : Nat} (h : i < l.length) : sumE (l.take (i + 1)) = addE (sumE (l.take i)) (l.getD i default) := by
  unfold sumE
  rw [List.take_succ_eq_append_getElem h, List.foldl_append, ← getD_eq h]; rfl
theorem getW_put (s t : Str) (v : Int) : ∀ es, getW (putW es s v) t = if t = s then v else getW es t
  | [] => by
    simp only [putW, getW]
    by_cases h : s = t
    · rw [if_pos h, if_pos h.symm]
    · rw [if_neg h, if_neg fun e => h e.symm]
  | p :: es => by
    have ih := getW_put s t v es
    by_cases hp : p.1 = s
    · subst hp
      simp only [putW, if_true, getW]
      by_cases h : p.1 = t
      · rw [if_pos h, if_pos h.symm]
      · rw [if_neg h, if_neg fun e => h e.symm, if_neg h]
    · simp only [putW, if_neg hp, getW]
      by_cases h : p.1 = t
      · rw [if_pos h, if_pos h, if_neg fun e => hp (h.trans e)]
      · rw [if_neg h, if_neg h, ih]
theorem putW_keys (s : Str) (v : Int) : ∀ es, (putW es s v).map Prod.fst = if s ∈ es.map Prod.fst then es.map Prod.fst else es.map Prod.fst ++ [s]
  | [] => by simp [putW]
  | p :: es => by
    have ih := putW_keys s v es
    by_cases hp : p.1 = s
    · subst hp; simp [putW]
    · have hp' : ¬ s = p.1 := fun e => hp e.symm
      simp only [putW, if_neg hp, List.map_cons, ih, List.mem_cons, hp', false_or]
      split <;> simp
theorem expU_cons (f : Fac) (l : List Fac) (s : Str) : expU (f :: l) s = (if f.name = s then f.exp else 0) + expU l s := by
  unfold expU
  by_cases h : f.name = s
  · simp [h]
  · simp [h]
theorem getW_fold (s : Str) : ∀ (l : List Fac) (es : List (Str × Int)), getW (l.foldl addE es) s = getW es s + expU l s
  | [], es => by simp [expU]
  | f :: l, es => by
    rw [List.foldl_cons, getW_fold s l, expU_cons, addE, getW_put]
    by_cases h : f.name = s
    · rw [if_pos h, if_pos h.symm, h]; omega
    · rw [if_neg h, if_neg fun e => h e.symm]; omega
theorem getW_sum (l : List Fac) (s : Str) : getW (sumE l) s = expU l s := by unfold sumE; rw [getW_fold]; simp [getW]
theorem sum_keys : ∀ (l : List Fac) (es : List (Str × Int)), (es.map Prod.fst).Nodup → ((l.foldl addE es).map Prod.fst).Nodup ∧ (∀ s, s ∈ (l.foldl addE es).map Prod.fst ↔ s ∈ es.map Prod.fst ∨ s ∈ l.map Fac.name) ∧ (l.foldl addE es).length ≤ es.length + l.length
  | [], es, h => ⟨h, fun s => by simp, Nat.le_refl _⟩
  | f :: l, es, h => by
    have hk := putW_keys f.name (getW es f.name + f.exp) es
    have hl : (addE es f).length ≤ es.length + 1 := by
      have h2 := congrArg List.length hk
      simp only [List.length_map] at h2
      unfold addE
      rw [h2]; split <;> simp
    have hm : ∀ s, s ∈ (addE es f).map Prod.fst ↔ s ∈ es.map Prod.fst ∨ s = f.name := fun s => by
      unfold addE; rw [hk]
      split
      · rename_i h1
        exact ⟨.inl, fun h => h.elim id fun e => by rw [e]; exact h1⟩
      · simp
    have hn : ((addE es f).map Prod.fst).Nodup := by
      unfold addE; rw [hk]
      split
      · exact h
      · rename_i h1
        exact List.nodup_append.2 ⟨h, by simp, fun a ha b hb e => by rw [List.mem_singleton] at hb; subst hb; subst e; exact h1 ha⟩
    obtain ⟨g1, g2, g3⟩ := sum_keys l (addE es f) hn
    refine ⟨g1, fun s => ?_, by rw [List.foldl_cons, List.length_cons]; omega⟩
    rw [List.foldl_cons, g2, hm, List.map_cons, List.mem_cons, or_assoc]
theorem expU_bd (s : Str) : ∀ (l : List Fac), (∀ f ∈ l, -8 ≤ f.exp ∧ f.exp ≤ 8) → -8 * (l.length : Int) ≤ expU l s ∧ expU l s ≤ 8 * (l.length : Int)
  | [], _ => by simp [expU]
  | f :: l, h => by
    have h1 := expU_bd s l fun f hf => h f (List.mem_cons_of_mem _ hf)
    have h2 := h f List.mem_cons_self
    rw [expU_cons, List.length_cons]
    split <;> omega
def Gr2 (lab : Nat) (rows : List (List AV)) (x : AV) (τ : Store) : Prop := (rows = [] ∧ x = nilA ∧ τ = []) ∨ ∃ b u c, x = .own 2 lab b u c rows ∧ τ = [(lab, b, .tail u c)]
theorem Gr2.z {lab : Nat} : Gr2 lab [] nilA [] := .inl ⟨rfl, rfl, rfl⟩
theorem Gr2.n {lab : Nat} {rows : List (List AV)} (h : rows = []) : Gr2 lab rows nilA [] := .inl ⟨h, rfl, rfl⟩
theorem Gr2.s {lab b u c : Nat} {rows rows' : List (List AV)} (h : rows' = rows) : Gr2 lab rows (.own 2 lab b u c rows') [(lab, b, .tail u c)] := .inr ⟨b, u, c, by rw [h], rfl⟩
def facU (l : List Fac) (L : List Str) : List Fac := (L.map fun n => (⟨n, expU l n⟩ : Fac)).filter fun f => decide (f.exp ≠ 0)
theorem facU_snoc {l : List Fac} {N : List Str} {i : Nat} (h : i < N.length) : facU l (N.take (i + 1)) = facU l (N.take i) ++ if expU l (N.getD i default) ≠ 0 then [⟨N.getD i default, expU l (N.getD i default)⟩] else [] := by
  unfold facU
  rw [List.take_succ_eq_append_getElem h, ← getD_eq h, List.map_append, List.filter_append, List.map_singleton, List.filter_cons]
  simp
theorem facU_len (l : List Fac) (L : List Str) : (facU l L).length ≤ L.length := Nat.le_trans (List.length_filter_le _ _) (by rw [List.length_map]; exact Nat.le_refl _)
theorem normal_ok (l : List Fac) (hw : ∀ f ∈ l, Word f.name) (hb : ∀ f ∈ l, -8 ≤ f.exp ∧ f.exp ≤ 8) (hl : l.length ≤ 8) : Pure Tryz.prog 177 [.sl false 2 (l.map Fac.cells)] (unA (normU l)) := by
  refine Pure.runk (fun _ => 0) Tryz.func177 comp177 era177 (Nat.le_of_ble_eq_true rfl) fun σ => ?_
  repeat' (first | exact .nil | refine .k0 ?_ | refine .k1 ?_ | refine .k2 ?_ | refine .k6 ?_ | refine .r1 ?_ ?_ | (refine .m2 ?_ ?_; intro hlen) | (refine .l3 ?_; intro b) | fail)
  try any_goals ((intro hob; fail))
  all_goals (try simp only [BL] at *)
  rename Nat => b1
  refine WK_loop (fun m rg σ' => ∃ (i : Nat), i ≤ l.length ∧ m = l.length - i ∧ σ' = (11, b1, .map (wE (sumE (l.take i))) (sumE (l.take i)).length) :: σ ∧ rg = [(2, nilA), (4, .mpt 11 b1), (12, .sl false 2 (l.map Fac.cells)), (13, iv l.length), (14, iv i)]) l.length rfl ⟨_, _, by repeat' first | exact .refl _ | fail, by repeat' first | exact .refl _ | fail, 0, Nat.zero_le _, rfl, rfl, rfl⟩ ?_
  rintro m _ _ ⟨i, hi, hm, rfl, rfl⟩
  have hE8 : i < l.length → -1000 ≤ (l.getD i default).exp ∧ (l.getD i default).exp ≤ 1000 := fun h => by
    have := hb _ (getD_mem h); omega
  have hE9 : ∀ s, -1000 ≤ getW (sumE (l.take i)) s ∧ getW (sumE (l.take i)) s ≤ 1000 := fun s => by
    have h1 := expU_bd s (l.take i) fun f hf => hb f (List.mem_of_mem_take hf)
    rw [List.length_take] at h1
    rw [getW_sum]; omega
  repeat' ((fail_if_success (show WK _ _ _ _ (.dreg _) _ _ _)); (first | exact .nil | refine .k0 ?_ | refine .k1 ?_ | refine .k2 ?_ | refine .k6 ?_ | refine .k7 ?_ | refine .k8 ?_ | refine .k9 ?_ | (refine .cd ?_ ?_ <;> (intro hc; skip)) | refine .r1 ?_ ?_ | (refine .l1 ?_; intro b) | refine .t1 ?_ ?_ ?_ | refine .an rfl (by intro hob; first | exact word_ok _ | fail) ?_ ?_ | fail))
  try any_goals ((intro hob; first | (simp_all; done) | fail))
  all_goals (try simp only [BL] at *)
  · exact absurd (hw _ (getD_mem (by omega))) hc
  · have hil : i < l.length := by omega
    refine WK_dregL 28 rfl rfl rfl ?_
    repeat' (first | exact .nil | refine .k0 ?_ | refine .r1 ?_ ?_ | fail)
    refine VY_lkw rfl rfl rfl OB.nil ?_
    repeat' (first | exact .nil | refine .k0 ?_ | refine .k1 ?_ | refine .k2 ?_ | refine .r1 ?_ ?_ | refine .an rfl (by intro hob; first | exact ofC_ok (hE8 (by first | omega | fail)) | exact addC_ok (hE9 _) (hE8 (by first | omega | fail)) | fail) ?_ ?_ | fail)
    try any_goals ((intro hob; fail))
    all_goals (try simp only [BL] at *)
    refine VX_upw (es := sumE (l.take i)) (s := (l.getD i default).name) (v := getW (sumE (l.take i)) (l.getD i default).name + (l.getD i default).exp) rfl rfl rfl rfl OB.nil ?_
    repeat' (first | exact .nil | refine .k0 ?_ | refine .k1 ?_ | refine .k2 ?_ | refine .r1 ?_ ?_ | fail)
    try any_goals ((intro hob; fail))
    all_goals (try simp only [BL] at *)
    refine ⟨m - 1, by omega, _, (11, b1, .map (wE (sumE (l.take (i + 1)))) (sumE (l.take (i + 1))).length) :: σ, by repeat' first | exact .refl _ | fail, by rw [sumE_snoc hil]; repeat' first | exact .refl _ | refine .cons ?_, i + 1, by omega, by omega, rfl, by rw [up1 (n := l.length) (by omega) (by assumption)]⟩
  · have hil : i = l.length := by omega
    subst hil
    rw [List.take_length]
    have hK := sum_keys l [] List.nodup_nil
    have hns : sortL ((sumE l).map Prod.fst) = sortL (l.map Fac.name) := srt_ext (sortL_srt _) (sortL_srt _) fun x => by
      rw [sortL_mem, sortL_mem]; exact (hK.2.1 x).trans (by simp)
    refine VX_spec rfl (sortedW_ok (es := sumE l) rfl hK.1 (fun p hp => ?_) (by have := hK.2.2; simp only [List.length_nil] at this; show (l.foldl addE []).length ≤ _; omega)) OB.nil (fun x σ' hR => ?_) (fun ch σ' hR => ?_)
    · have h1 := (hK.2.1 p.1).1 (List.mem_map.2 ⟨p, hp, rfl⟩)
      rcases h1 with h1 | h1
      · cases h1
      · obtain ⟨f, hf, e⟩ := List.mem_map.1 h1
        have := (hw f hf).2.1
        rw [← e]; unfold maxLen; omega
    rotate_left
    · exact nomatch hR.1
    obtain ⟨e1, e2⟩ := hR
    cases e1
    subst e2
    rw [hns]
    have hN0 : normU l = if ∃ n ∈ sortL (l.map Fac.name), expU l n > 8 ∨ expU l n < -8 then ([], 70) else if (facU l (sortL (l.map Fac.name))).length > 4 then ([], 2) else (facU l (sortL (l.map Fac.name)), 0) := rfl
    have hNl : (sortL (l.map Fac.name)).length ≤ 8 := by
      have := nodup_le (srt_nodup (sortL_srt (l.map Fac.name))) fun x hx => sortL_mem.1 hx
      rw [List.length_map] at this; omega
    generalize sortL (l.map Fac.name) = N at *
    repeat' (first | exact .nil | refine .k0 ?_ | refine .k1 ?_ | refine .k6 ?_ | refine .r1 ?_ ?_ | (refine .m2 ?_ ?_; intro hlen) | fail)
    try any_goals ((intro hob; fail))
    all_goals (try simp only [BL] at *)
    clear hE8 hE9 hns hK hi hm hc
    have hE7 : ∀ s, -1000 ≤ getW (sumE l) s ∧ getW (sumE l) s ≤ 1000 := fun s => by
      have h1 := expU_bd s l hb
      rw [getW_sum]; omega
    have hG := fun s => getW_sum l s
    generalize sumE l = es at *
    refine WK_loop (fun m rg σ' => ∃ (i : Nat) (x : AV) (τ : Store), i ≤ N.length ∧ m = N.length - i ∧ (∀ n ∈ N.take i, ¬ (expU l n > 8 ∨ expU l n < -8)) ∧ Gr2 61 ((facU l (N.take i)).map Fac.cells) x τ ∧ σ' = τ ++ (11, b1, .map (wE es) es.length) :: σ ∧ rg = [(2, x), (4, .mpt 11 b1), (35, strsV N), (36, iv N.length), (37, iv i)]) N.length rfl ⟨_, _, by repeat' first | exact .refl _ | fail, by repeat' first | exact .refl _ | fail, 0, _, _, Nat.zero_le _, rfl, (fun n h => by cases h), Gr2.z, rfl, rfl⟩ ?_
    rintro m2 _ _ ⟨i, x, τ, hi, hm, hP, hR, rfl, rfl⟩
    have hfl : (facU l (N.take i)).length ≤ 8 := Nat.le_trans (facU_len _ _) (by rw [List.length_take]; omega)
    have hsn := fun (h : i < N.length) => facU_snoc (l := l) h
    have hP2 : i < N.length → ¬ (expU l (N.getD i default) > 8 ∨ expU l (N.getD i default) < -8) → ∀ n ∈ N.take (i + 1), ¬ (expU l n > 8 ∨ expU l n < -8) := fun h h1 n hn => by
      rw [List.take_succ_eq_append_getElem h, ← getD_eq h, List.mem_append, List.mem_singleton] at hn
      rcases hn with hn | rfl
      · exact hP n hn
      · exact h1
    rcases hR with ⟨hE, rfl, rfl⟩ | ⟨b3, u3, c3, rfl, rfl⟩
    all_goals
      repeat' (first | exact .nil | refine .k0 ?_ | refine .k1 ?_ | refine .k2 ?_ | refine .k6 ?_ | refine .k7 ?_ | refine .k8 ?_ | refine .k9 ?_ | (refine .cd ?_ ?_ <;> (intro hc; skip)) | refine .r1 ?_ ?_ | (refine .m2 ?_ ?_; intro hlen) | refine .t1 ?_ ?_ ?_ | refine .r8 ?_ ?_ | fail)
      refine VX_lkw rfl rfl rfl OB.nil ?_
      repeat' (first | exact .nil | refine .k0 ?_ | refine .k1 ?_ | refine .k2 ?_ | refine .k7 ?_ | refine .k9 ?_ | (refine .cd ?_ ?_ <;> (intro hc; skip)) | refine .r1 ?_ ?_ | refine .u1 ?_ ?_ ?_ (fun b u c => ?_) | refine .u2 ?_ ?_ ?_ (fun b u c => ?_) | refine .an rfl (by intro hob; first | exact outside_ok _ 8 (by decide) | exact divideC_ok (hE7 _)) ?_ ?_ | (show List.all _ _ = true; rfl) | fail)
      try any_goals ((intro hob; first | (simp_all; done) | fail))
      all_goals (try simp only [BL] at *)
      · rw [hN0, if_pos ⟨N.getD i default, getD_mem (by omega), by rw [hG] at hc; exact hc⟩]
        (refine Sx.Fin.wk (by repeat' first | exact .refl _ | refine .cons ?_) ?_; repeat' first | exact .refl _ | exact .nil | refine .cons ?_ ?_ | refine .tup ?_ | fail)
      · show _ ≤ 1000000; simp only [List.length_cons, List.length_nil]; omega
      · show _ * _ ≤ _; simp only [List.length_map, List.length_cons, List.length_nil]; omega
      · have hnb : ¬ (getW es (N.getD i default) > 8 ∨ getW es (N.getD i default) < -8) := by assumption
        rw [hG] at hc hnb
        refine ⟨m2 - 1, by omega, _, _, by repeat' first | exact .refl _ | fail, by repeat' first | exact .refl _ | fail, i + 1, _, _, by omega, by omega, hP2 (by omega) hnb, Gr2.s ?_, rfl, by rw [up1 (n := N.length) (by omega) (by assumption)]⟩
        rw [hsn (by omega), if_pos hc, List.map_append, hG]
        first | (rw [hE]; rfl) | rfl
      · have hnb : ¬ (getW es (N.getD i default) > 8 ∨ getW es (N.getD i default) < -8) := by assumption
        rw [hG] at hc hnb
        refine ⟨m2 - 1, by omega, _, _, by repeat' first | exact .refl _ | fail, by repeat' first | exact .refl _ | fail, i + 1, _, _, by omega, by omega, hP2 (by omega) hnb, ?_, rfl, by rw [up1 (n := N.length) (by omega) (by assumption)]⟩
        rw [hsn (by omega), if_neg (by rw [hc]; simp), List.append_nil]
        first | exact Gr2.n hE | exact Gr2.s rfl
      · have hiN : N.take i = N := List.take_of_length_le (by omega)
        rw [hiN] at hP
        try rw [hiN] at hE
        try rw [hiN] at hc
        try rw [hiN]
        rw [hN0, if_neg (by rintro ⟨n, hn, hb2⟩; exact hP n hn hb2)]
        first
          | exact absurd hc (by decide)
          | (rw [if_pos (by omega)]; (refine Sx.Fin.wk (by repeat' first | exact .refl _ | refine .cons ?_) ?_; repeat' first | exact .refl _ | exact .nil | refine .cons ?_ ?_ | refine .tup ?_ | fail))
      · have hiN : N.take i = N := List.take_of_length_le (by omega)
        rw [hiN] at hP
        try rw [hiN] at hE
        try rw [hiN] at hc
        try rw [hiN]
        rw [hN0, if_neg (by rintro ⟨n, hn, hb2⟩; exact hP n hn hb2)]
        first
          | (rw [List.map_eq_nil_iff.1 hE, if_neg (by decide)]; refine Sx.Fin.wk (by repeat' first | exact .refl _ | refine .cons ?_) (.tup (.cons .nil (.cons (.refl _) .nil))); done)
          | (rw [if_neg (by omega)]; (refine Sx.Fin.wk (by repeat' first | exact .refl _ | refine .cons ?_) ?_; repeat' first | exact .refl _ | refine .cons ?_ ?_ | refine .tup ?_ | exact .own _))
end Go.Proofs.YtekngilbecjkhaaGreatDoor

/- slices.Clone of factors; units.Times, units.Over. -/
set_option linter.unusedSimpArgs false
set_option linter.unusedVariables false
set_option maxRecDepth 100000
set_option maxHeartbeats 4000000
namespace Go.Proofs.YtekngilbecjkhaaGreatDoor
section
open Go.RowKit Go.Proofs Go.Tb Go.Shelf
theorem facInfo : (Tryz.prog.info? 124).map (fun i => (i.zero, i.size, i.bytes)) = some (some (.agg #[.string ⟨#[]⟩, .int .i64 0]), 2, 24) := by kernel_rfl
theorem cloneF_walk {w : World} {ad : Addr} {n c : Nat} {news : List Value} (hlen : news.length = n * 2) (hc : ∀ j u, news[j]? = some u → w.cell? (ad.add j) = some u) (h1 : ∀ u ∈ news, u.oneCell' = true) (hn : n ≤ 8) :
    Calls Tryz.prog 176 #[.slice (some ad) n c] w fun e w' => ∃ v', e = .returned v' ∧ w'.ownsRow w.heap.size 124 2 v' n news ∧ v' ≠ .slice none 0 0 ∧ Below w.heap.size w w' := by
  obtain ⟨i0, hi, hz0, hz1, hz2⟩ := info_parts facInfo
  have q22 : ∀ (w : World) (a : Option Addr) (n c n' c' : Nat), (binOp .eql 32 (.slice a n c) (.slice none n' c')).run Tryz.prog w = .ok (.bool a.isNone) w := fun w a n c n' c' => Lib.run_eql_slice_nil w _ _ a n c n' c' Tryz.underlying32
  have A : Aside (∀ j u, news[j]? = some u → w.cell? (ad.add j) = some u) := hc
  clear hc
  go_enter Tryz.func176, Tryz.ntmps176
  go_wp2_with (at_builtin; refine wpList_append_own _ rfl _ _ 32 rfl w.heap.size 124 i0 (.agg #[.string ⟨#[]⟩, .int .i64 0]) 2 24 Tryz.underlying32 hi hz0 hz1 hz2 rfl (by decide) _ _ _ rfl (World.ownsRow_made w #[] 0 (Nat.le_refl _) (Nat.zero_le _) rfl) ad n c news rfl hlen ?qc2 h1 ?qc4 ?qc5 ?qc6 ?_)
  case qc2 =>
    intro j u hj
    exact Lib.cell?_alloc_some _ (A.out j u hj)
  case qc4 => unfold maxLen; omega
  case qc5 => omega
  case qc6 => simp
  intro v' w1 hown hgrow hnil
  go_wp2
  go_ret
  refine ⟨v', rfl, by simpa using hown, ?_, ?_⟩
  · first | exact hnil | fail
  · exact ((Below.refl _ w).alloc (Nat.le_refl _) _).grown hgrow (by simp) (by intro k hk; simp [Value.ownBlock] at hk; omega)
theorem cloneF_nil (n c : Nat) (w : World) : Calls Tryz.prog 176 #[.slice none n c] w fun e w' => e = .returned (.slice none 0 0) ∧ w' = w := by
  have q22 : ∀ (w : World) (a : Option Addr) (n c n' c' : Nat), (binOp .eql 32 (.slice a n c) (.slice none n' c')).run Tryz.prog w = .ok (.bool a.isNone) w := fun w a n c n' c' => Lib.run_eql_slice_nil w _ _ a n c n' c' Tryz.underlying32
  go_enter Tryz.func176, Tryz.ntmps176
  go_wp2
  go_ret
  exact ⟨rfl, rfl⟩
end
section
open Go.Sx Go.Proofs Go.Tb Go.RowKit
def memU (M : Mem) (g u : Nat) (w' : World) : Mem := fun b o => if b = g ∧ o < u then w'.cell? ⟨b, o, none⟩ else M b o
theorem memU_le {M : Mem} {w0 w w' : World} {σ : Store} {g u : Nat} (hI : Inv Tryz.prog M w0 σ w) (hg : w.heap.size ≤ g) : M.le (memU M g u w') := fun b o v h => by
  have := World.block_lt_of_cell? _ _ (hI.imm b o v h)
  unfold memU
  rw [if_neg (by simp at this; omega)]; exact h
theorem inv_own {M : Mem} {w0 w w' : World} {σ : Store} {g u lab : Nat} {cur : Array Value} {ty : TypeId} (hI : Inv Tryz.prog M w0 σ w) (hb : Below w.heap.size w w') (hg : w.heap.size ≤ g) (hh : w'.heap[g]? = some (.cells cur ty (0, 0))) (hu : u ≤ cur.size) :
    Inv Tryz.prog (memU M g u w') w0 ((lab, g, .tail u cur.size) :: σ) w' := by
  have h1 := hI.after hb
  have hle := memU_le (w' := w') (u := u) hI hg
  have hfresh : ∀ o, M g o = none := fun o => by
    cases h : M g o with
    | none => rfl
    | some v =>
      have := World.block_lt_of_cell? _ _ (hI.imm g o v h)
      simp at this; omega
  have hlt : ∀ e ∈ σ, e.2.1 < w.heap.size := fun e he => by
    obtain ⟨_, g3⟩ := hI.st e he
    cases hx : e.2.2 with
    | cells l => rw [hx] at g3; obtain ⟨_, cs, t, a2, _⟩ := g3; exact (Array.getElem?_eq_some_iff.1 a2).1
    | tail u c => rw [hx] at g3; obtain ⟨_, cs, t, a2, _⟩ := g3; exact (Array.getElem?_eq_some_iff.1 a2).1
    | map es k => rw [hx] at g3; obtain ⟨_, l, a2, _⟩ := g3; exact (Array.getElem?_eq_some_iff.1 a2).1
  refine ⟨h1.os, h1.tape, h1.output, h1.size, h1.old, fun b o v h => ?_, fun e he => ?_, ?_, fun g l hl => (h1.gl g l hl).mono hle, h1.gw⟩
  · unfold memU at h
    split at h
    · exact h
    · exact h1.imm b o v h
  · rcases List.mem_cons.1 he with rfl | he
    · refine ⟨Nat.le_trans hI.size hg, fun o ho => ?_, cur, ty, hh, rfl, hu⟩
      unfold memU
      rw [if_neg (by omega)]; exact hfresh o
    · obtain ⟨g1, g2⟩ := h1.st e he
      have h4 := hlt e he
      refine ⟨g1, ?_⟩
      have hN : ∀ o, memU M g u w' e.2.1 o = M e.2.1 o := fun o => by unfold memU; rw [if_neg (by omega)]
      cases hx : e.2.2 with
      | cells l => rw [hx] at g2; obtain ⟨a1, cs, t, a2, a3⟩ := g2; exact ⟨fun o => (hN o).trans (a1 o), cs, t, a2, a3.mono hle⟩
      | tail u c => rw [hx] at g2; obtain ⟨a1, cs, t, a2, a3⟩ := g2; exact ⟨fun o ho => (hN o).trans (a1 o ho), cs, t, a2, a3⟩
      | map es k => rw [hx] at g2; obtain ⟨a1, l, a2, a3, a4⟩ := g2; exact ⟨fun o => (hN o).trans (a1 o), l, a2, a3, a4.mono hle⟩
  · simp only [List.map_cons, List.nodup_cons]
    refine ⟨fun h => ?_, h1.nd⟩
    obtain ⟨e, he, heq⟩ := List.mem_map.1 h
    have := hlt e he
    omega
theorem clone_ok (l : List Fac) (hl : l.length ≤ 8) (σ : Store) : Sx.Spec Tryz.prog 176 [.sl false 2 (l.map Fac.cells)] σ fun r σ' => (l = [] ∧ r = .ret nilA ∧ σ' = σ) ∨ ∃ g u c, r = .ret (.own 2 40 g u c (l.map Fac.cells)) ∧ σ' = (40, g, .tail u c) :: σ := by
  intro M w0 w cs hI hR
  obtain ⟨v, rfl, h1⟩ := RL.un1 hR
  have key : ∀ (ad : Addr) (c : Nat) (f : Nat → Value), (∀ k, k < l.length * 2 → w.cell? (ad.add k) = some (f k)) → (∀ i (h : i < (l.map Fac.cells).length) j (h2 : j < ((l.map Fac.cells)[i]).length), R M ((l.map Fac.cells)[i])[j] (f (i * 2 + j))) → v = .slice (some ad) l.length c →
      Calls Tryz.prog 176 #[v] w fun e w' => ∃ M' r σ', M.le M' ∧ Inv Tryz.prog M' w0 σ' w' ∧ RRes M' r e ∧ ((l = [] ∧ r = .ret nilA ∧ σ' = σ) ∨ ∃ g u c, r = .ret (.own 2 40 g u c (l.map Fac.cells)) ∧ σ' = (40, g, .tail u c) :: σ) := fun ad c f hf hr hv => by
    subst hv
    have hone : ∀ i (h : i < l.length), f (i * 2) = .string l[i].name ∧ f (i * 2 + 1) = .int .i64 l[i].exp := fun i h => by
      have a0 := hr i (by simpa using h) 0 (by simp [Fac.cells])
      have a1 := hr i (by simpa using h) 1 (by simp [Fac.cells])
      simp only [List.getElem_map] at a0 a1
      exact ⟨a0.of_v, a1.of_v⟩
    refine (cloneF_walk (w := w) (ad := ad) (n := l.length) (c := c) (news := (List.range (l.length * 2)).map f) (by simp) (fun j u hj => ?_) (fun u hu => ?_) hl).mono fun e w' ⟨v', he, hown, hnn, hb⟩ => ?_
    · have hj2 : j < l.length * 2 := by have := (List.getElem?_eq_some_iff.1 hj).1; simpa using this
      rw [hf j hj2]
      simpa [hj2] using hj
    · obtain ⟨k, hk, rfl⟩ := List.mem_map.1 hu
      have hk2 : k < l.length * 2 := List.mem_range.1 hk
      have := hone (k / 2) (by omega)
      rcases Nat.mod_two_eq_zero_or_one k with h | h
      · rw [show k = k / 2 * 2 by omega, this.1]; rfl
      · rw [show k = k / 2 * 2 + 1 by omega, this.2]; rfl
    · obtain ⟨g1, g2⟩ := hown
      rcases g2 with ⟨hnil, _⟩ | ⟨g, cap, cur, rfl, hbase, hh, hc, hm, hs, ht⟩
      · exact absurd hnil hnn
      · refine ⟨memU M g (l.length * 2) w', .ret (.own 2 40 g (l.length * 2) cur.size (l.map Fac.cells)), _, memU_le hI hbase, inv_own hI hb hbase hh (by omega), ?_, .inr ⟨g, _, _, rfl, rfl⟩⟩
        subst he
        have hcell : ∀ k, k < l.length * 2 → w'.cell? ⟨g, k, none⟩ = some (f k) := fun k hk => by
          rw [cell_at hh]
          have := congrArg (fun x => x[k]?) ht
          simp [hk] at this
          exact this
        have := R.own (M := memU M g (l.length * 2) w') 2 40 g (l.length * 2) cur.size (l.map Fac.cells) 0 cap f (fun i hi => by rw [List.getElem_map]; rfl) (fun k hk => ?_) (fun i hi j hj => (hr i hi j hj).mono (memU_le hI hbase)) (by rw [List.length_map]; exact hc) hm (.inr ⟨by rw [List.length_map]; omega, by omega⟩) (by decide)
        · rw [List.length_map] at this; exact this
        · rw [List.length_map] at hk
          unfold memU
          rw [if_pos ⟨rfl, by omega⟩, Nat.zero_add]
          exact hcell k hk
  generalize hX : (AV.sl false 2 (l.map Fac.cells)) = X at h1
  cases h1 <;> (try cases hX)
  · rename_i a h0
    have hl0 : l = [] := by simp at hX; exact hX.2.2
    subst hl0
    cases a with
    | none => exact (cloneF_nil 0 0 w).mono fun e w' ⟨h1, h2⟩ => ⟨M, .ret nilA, σ, Mem.le.refl _, by rw [h2]; exact hI, by subst h1; exact .v _, .inl ⟨rfl, rfl, rfl⟩⟩
    | some ad => exact key ad 0 (fun _ => undef) (fun k hk => by simp at hk) (fun i hi => by simp at hi) rfl
  · rename_i b off cap f hm hc hsz hM hR'
    exact key ⟨b, off, none⟩ cap f (fun k hk => by rw [Addr.add_lit]; exact hI.imm _ _ _ (hM k (by simpa using hk))) hR' (by simp)
end
end Go.Proofs.YtekngilbecjkhaaGreatDoor

/- units.Times, units.Over. -/
set_option linter.unusedSimpArgs false
set_option linter.unusedVariables false
set_option maxRecDepth 100000
set_option maxHeartbeats 4000000
namespace Go.Proofs.YtekngilbecjkhaaGreatDoor
open Go.Sx Go.Proofs Go.Tb
theorem facErr_0 {p : Option Str} {f : Fac} (h : facErr p f = 0) : Word f.name ∧ -8 ≤ f.exp ∧ f.exp ≤ 8 := by
  unfold facErr at h
  split at h
  · cases h
  split at h
  · cases h
  · rename_i h1 h2
    exact ⟨Classical.not_not.1 h1, by omega, by omega⟩
theorem unitErrL_0 : ∀ {l : List Fac} {p : Option Str}, unitErrL p l = 0 → ∀ f ∈ l, Word f.name ∧ -8 ≤ f.exp ∧ f.exp ≤ 8
  | [], _, _, f, hf => by cases hf
  | f :: l, p, h, g, hg => by
    rw [unitErrL] at h
    split at h
    · rename_i h1
      rcases List.mem_cons.1 hg with rfl | hg
      · exact facErr_0 h1
      · exact unitErrL_0 h g hg
    · rename_i h1; exact absurd h h1
theorem unitErr_0 {l : List Fac} (h : unitErr l = 0) : l.length ≤ 4 ∧ ∀ f ∈ l, Word f.name ∧ -8 ≤ f.exp ∧ f.exp ≤ 8 := by
  unfold unitErr at h
  split at h
  · cases h
  · exact ⟨by omega, unitErrL_0 h⟩
def mulF (sg : Int) (f : Fac) : Fac := ⟨f.name, sg * f.exp⟩
theorem gr2_wk {l : List Fac} {lab : Nat} {x : AV} {τ : Store} (h : Gr2 lab (l.map Fac.cells) x τ) : Wk x (.sl false 2 (l.map Fac.cells)) := by
  rcases h with ⟨hE, rfl, rfl⟩ | ⟨b, u, c, rfl, rfl⟩
  · rw [hE]; exact .nil
  · exact .own _
theorem product_ok (a d : List Fac) (sg : Int) (hsg : sg = 1 ∨ sg = -1) : Pure Tryz.prog 167 [.sl false 2 (a.map Fac.cells), .sl false 2 (d.map Fac.cells), iv sg] (unA (prodU a d sg)) := by
  refine Pure.runk (fun _ => 0) Tryz.func167 comp167 era167 (Nat.le_of_ble_eq_true rfl) fun σ => ?_
  repeat' (first | exact .nil | refine .k0 ?_ | refine .k1 ?_ | refine .k2 ?_ | refine .k7 ?_ | refine .k9 ?_ | (refine .cd ?_ ?_ <;> (intro hc; skip)) | refine .r1 ?_ ?_ | refine .an rfl (by intro hob; first | exact unitCheck_ok _ | fail) ?_ ?_ | fail)
  try any_goals ((intro hob; fail))
  all_goals (try simp only [BL] at *)
  · rw [show prodU a d sg = ([], unitErr a) from if_pos hc]
    refine Sx.Fin.wk (by repeat' first | exact .refl _ | fail) (.tup (.cons .nil (.cons (.refl _) .nil)))
  · have ha : unitErr a = 0 := by assumption
    rw [show prodU a d sg = ([], unitErr d) from by unfold prodU; rw [if_neg (by rw [ha]; simp), if_pos hc]]
    refine Sx.Fin.wk (by repeat' first | exact .refl _ | fail) (.tup (.cons .nil (.cons (.refl _) .nil)))
  have ha : unitErr a = 0 := by assumption
  have hb : unitErr d = 0 := by assumption
  have hP : prodU a d sg = normU (a ++ d.map (mulF sg)) := by unfold prodU; rw [if_neg (by rw [ha]; simp), if_neg (by rw [hb]; simp)]; rfl
  obtain ⟨ha1, ha2⟩ := unitErr_0 ha
  obtain ⟨hb1, hb2⟩ := unitErr_0 hb
  refine VX_spec rfl (clone_ok a (by omega) _) OB.nil (fun x σ' hR => ?_) (fun ch σ' hR => ?_)
  rotate_left
  · rcases hR with ⟨_, h, _⟩ | ⟨_, _, _, h, _⟩ <;> cases h
  have hst : ∀ (g u c : Nat), Gr2 40 ((a ++ (d.take 0).map (mulF sg)).map Fac.cells) (.own 2 40 g u c (a.map Fac.cells)) [(40, g, .tail u c)] := fun g u c => Gr2.s (by rw [List.take_zero, List.map_nil, List.append_nil])
  have hst0 : a = [] → Gr2 40 ((a ++ (d.take 0).map (mulF sg)).map Fac.cells) nilA [] := fun h => Gr2.n (by rw [h]; rfl)
  have hNo : Pure Tryz.prog 177 [.sl false 2 ((a ++ d.map (mulF sg)).map Fac.cells)] (unA (normU (a ++ d.map (mulF sg)))) := by
    refine normal_ok _ (fun f hf => ?_) (fun f hf => ?_) (by rw [List.length_append, List.length_map]; omega)
    · rcases List.mem_append.1 hf with hf | hf
      · exact (ha2 f hf).1
      · obtain ⟨q, hq, rfl⟩ := List.mem_map.1 hf
        exact (hb2 q hq).1
    · rcases List.mem_append.1 hf with hf | hf
      · exact (ha2 f hf).2
      · obtain ⟨q, hq, rfl⟩ := List.mem_map.1 hf
        have := (hb2 q hq).2
        show -8 ≤ sg * q.exp ∧ sg * q.exp ≤ 8
        rcases hsg with rfl | rfl <;> omega
  rw [hP]
  clear hP hc
  rcases hR with ⟨h0, h, rfl⟩ | ⟨g, u, c, h, rfl⟩ <;> cases h
  all_goals
    repeat' (first | exact .nil | refine .k0 ?_ | refine .k1 ?_ | refine .k2 ?_ | refine .k6 ?_ | refine .r1 ?_ ?_ | (refine .m2 ?_ ?_; intro hlen) | fail)
    try any_goals ((intro hob; fail))
    all_goals (try simp only [BL] at *)
    first
      | (have _ := g
         rename Store => σ
         refine WK_loop (fun m rg σ' => ∃ (i : Nat) (x : AV) (τ : Store), i ≤ d.length ∧ m = d.length - i ∧ Gr2 40 ((a ++ (d.take i).map (mulF sg)).map Fac.cells) x τ ∧ σ' = τ ++ σ ∧ rg = [(2, iv sg), (10, x), (25, .sl false 2 (d.map Fac.cells)), (26, iv d.length), (27, iv i)]) d.length rfl ⟨_, _, by repeat' first | exact .refl _ | fail, by repeat' first | exact .refl _ | fail, 0, _, _, Nat.zero_le _, rfl, hst g u c, rfl, rfl⟩ ?_)
      | (rename Store => σ
         refine WK_loop (fun m rg σ' => ∃ (i : Nat) (x : AV) (τ : Store), i ≤ d.length ∧ m = d.length - i ∧ Gr2 40 ((a ++ (d.take i).map (mulF sg)).map Fac.cells) x τ ∧ σ' = τ ++ σ ∧ rg = [(2, iv sg), (10, x), (25, .sl false 2 (d.map Fac.cells)), (26, iv d.length), (27, iv i)]) d.length rfl ⟨_, _, by repeat' first | exact .refl _ | fail, by repeat' first | exact .refl _ | fail, 0, _, _, Nat.zero_le _, rfl, hst0 h0, rfl, rfl⟩ ?_)
    rintro m2 _ _ ⟨i, x, τ, hi, hm, hR, rfl, rfl⟩
    have hN3 : i = d.length → Pure Tryz.prog 177 [x] (unA (normU (a ++ d.map (mulF sg)))) := fun h => by
      subst h
      rw [List.take_length] at hR
      exact hNo.wk (.cons (gr2_wk hR) .nil)
    have hsn : i < d.length → (a ++ (d.take (i + 1)).map (mulF sg)).map Fac.cells = (a ++ (d.take i).map (mulF sg)).map Fac.cells ++ [[sv (d.getD i default).name, iv (sg * (d.getD i default).exp)]] := fun h => by
      rw [List.take_succ_eq_append_getElem h, ← getD_eq h]; simp [mulF, Fac.cells]
    have hwr : i < d.length → IntKind.i64.wrap (sg * (d.getD i default).exp) = sg * (d.getD i default).exp := fun h => by
      have := (hb2 _ (getD_mem h)).2
      rcases hsg with rfl | rfl <;> exact i64w (by omega)
    have hln : (a ++ (d.take i).map (mulF sg)).length ≤ 8 := by rw [List.length_append, List.length_map, List.length_take]; omega
    rcases hR with ⟨hE, rfl, rfl⟩ | ⟨b3, u3, c3, rfl, rfl⟩
    all_goals
      repeat' (first | exact .nil | refine .k0 ?_ | refine .k1 ?_ | refine .k2 ?_ | refine .k6 ?_ | refine .k7 ?_ | refine .k8 ?_ | refine .k9 ?_ | (refine .cd ?_ ?_ <;> (intro hc; skip)) | refine .r1 ?_ ?_ | (refine .l1 ?_; intro b) | refine .t1 ?_ ?_ ?_ | refine .u1 ?_ ?_ ?_ (fun b u c => ?_) | refine .u2 ?_ ?_ ?_ (fun b u c => ?_) | refine .an rfl (by intro hob; exact hN3 (by (simp only [BL] at *; omega))) ?_ ?_ | (show List.all _ _ = true; rfl) | fail)
      try any_goals ((intro hob; first | (simp_all; done) | fail))
      all_goals (try simp only [BL] at *)
      · show _ ≤ 1000000; simp only [List.length_cons, List.length_nil]; omega
      · show _ * _ ≤ _; simp only [List.length_map, List.length_cons, List.length_nil]; omega
      · rw [hwr (by omega)]
        refine ⟨m2 - 1, by omega, _, _, by repeat' first | exact .refl _ | fail, by repeat' first | exact .refl _ | refine .same ?_ | refine .cons ?_, i + 1, _, _, by omega, by omega, Gr2.s ?_, rfl, by rw [up1 (n := d.length) (by omega) (by assumption)]⟩
        rw [hsn (by omega)]
        try rw [hE]
        try rfl
      · (refine Sx.Fin.wk (by repeat' first | exact .refl _ | refine .cons ?_) ?_; repeat' first | exact .refl _ | fail)
theorem times_ok : TimesC := fun a b => by
  have hp := product_ok a b 1 (.inl rfl)
  refine Pure.runk (fun _ => 0) Tryz.func148 comp148 era148 (Nat.le_of_ble_eq_true rfl) fun σ => ?_
  repeat' (first | exact .nil | refine .k0 ?_ | refine .k1 ?_ | refine .k2 ?_ | refine .k7 ?_ | refine .r1 ?_ ?_ | refine .an rfl (by intro hob; exact hp) ?_ ?_ | fail)
  try any_goals ((intro hob; fail))
  all_goals (try simp only [BL] at *)
  (refine Sx.Fin.wk (by repeat' first | exact .refl _ | fail) ?_; repeat' first | exact .refl _ | fail)
theorem over_ok : OverC := fun a b => by
  have hp := product_ok a b (-1) (.inr rfl)
  refine Pure.runk (fun _ => 0) Tryz.func149 comp149 era149 (Nat.le_of_ble_eq_true rfl) fun σ => ?_
  repeat' (first | exact .nil | refine .k0 ?_ | refine .k1 ?_ | refine .k2 ?_ | refine .k7 ?_ | refine .r1 ?_ ?_ | refine .an rfl (by intro hob; exact hp) ?_ ?_ | fail)
  try any_goals ((intro hob; fail))
  all_goals (try simp only [BL] at *)
  (refine Sx.Fin.wk (by repeat' first | exact .refl _ | fail) ?_; repeat' first | exact .refl _ | fail)
end Go.Proofs.YtekngilbecjkhaaGreatDoor

/- CatalogFits. -/
set_option linter.unusedSimpArgs false
set_option linter.unusedVariables false
set_option maxRecDepth 100000
set_option maxHeartbeats 4000000
namespace Go.Proofs.YtekngilbecjkhaaGreatDoor
open Go.Sx Go.Proofs Go.Tb
mutual
theorem inf_tabs {C : Cat} {e0 : Str} : ∀ (x : Ex) (tb : Option Tab), (inf C e0 x tb).2 = 0 → ∀ s ∈ x.tabs, (findT C.tables s).isSome = true
  | .mk k o n t v u p w ks, tb, h, s, hs => by
    rw [inf] at h
    unfold finT at h
    split at h
    · rename_i h1; exact absurd h h1
    rename_i h1
    split at h
    · rename_i h2; exact absurd h h2
    rename_i h2
    rw [Ex.tabs, List.mem_append] at hs
    rcases hs with hs | hs
    · by_cases hk : k = 5
      · rw [if_pos hk] at hs
        obtain rfl := List.mem_singleton.1 hs
        have h3 : (inT C e0 tb (.mk k o n s v u p w ks)).2 = 0 := by simpa using h1
        unfold inT at h3
        rw [if_pos (show (Ex.mk k o n s v u p w ks).kind = 5 from hk)] at h3
        split at h3
        · cases h3
        · rename_i e; rw [show findT C.tables s = _ from e]; rfl
      · rw [if_neg hk] at hs; cases hs
    · exact infL_tabs ks _ (by simpa using h2) s hs
theorem infL_tabs {C : Cat} {e0 : Str} : ∀ (l : List Ex) (tb : Option Tab), (infL C e0 l tb).2 = 0 → ∀ s ∈ Ex.tabsL l, (findT C.tables s).isSome = true
  | [], _, _, s, hs => by rw [Ex.tabsL] at hs; cases hs
  | x :: l, tb, h, s, hs => by
    rw [infL] at h
    split at h
    · rename_i h1; exact absurd h h1
    rename_i h1
    rw [Ex.tabsL, List.mem_append] at hs
    rcases hs with hs | hs
    · exact inf_tabs x tb (by simpa using h1) s hs
    · exact infL_tabs l tb h s hs
end
theorem verL_srt : ∀ (l : List Fea) (p : Option Str) (vs : List (Str × Int)), (verL 0 p l vs).1 = 0 → (∀ q, p = some q → ∀ f ∈ l, sLt q f.name = true) ∧ Srt (l.map Fea.name)
  | [], _, _, _ => ⟨fun _ _ f hf => (by cases hf), List.Pairwise.nil⟩
  | f :: l, p, vs, h => by
    rw [verL] at h
    split at h
    · rename_i h1; exact absurd h h1
    split at h
    · cases h
    rename_i h2
    split at h
    · cases h
    obtain ⟨g1, g2⟩ := verL_srt l (some f.name) _ h
    have hq : ∀ q, p = some q → sLt q f.name = true := fun q hq => by
      subst hq
      unfold ordErr at h2
      cases e : sLt q f.name with
      | true => rfl
      | false =>
        exfalso
        cases e2 : sLt f.name q with
        | true => exact h2 (.inl e2)
        | false => exact h2 (.inr ⟨by decide, sLt_tri e2 e⟩)
    refine ⟨fun q hq' g hg => ?_, List.pairwise_cons.2 ⟨fun b hb => ?_, g2⟩⟩
    · rcases List.mem_cons.1 hg with rfl | hg
      · exact hq q hq'
      · exact sLt_trans (hq q hq') (g1 _ rfl g hg)
    · obtain ⟨g, hg, rfl⟩ := List.mem_map.1 hb
      exact g1 _ rfl g hg
theorem feasL_0 {C : Cat} : ∀ {l : List Fea}, feasL C l = 0 → ∀ f ∈ l, feaErr C f = 0
  | [], _, f, hf => by cases hf
  | g :: l, h, f, hf => by
    rw [feasL] at h
    split at h
    · rename_i h1; exact absurd h h1
    rename_i h1
    rcases List.mem_cons.1 hf with rfl | hf
    · simpa using h1
    · exact feasL_0 h f hf
theorem catErr_0 {C : Cat} (h : catErr C = 0) : verErr C = 0 ∧ (∀ f ∈ C.features, feaErr C f = 0) ∧ cycL (deps C.features) (namesF C.features) = [] := by
  unfold catErr at h
  split at h
  · cases h
  split at h
  · rename_i h1; exact absurd h h1
  split at h
  · rename_i h1; exact absurd h h1
  rename_i h3
  split at h
  · rename_i h1; exact absurd h h1
  rename_i h4
  split at h
  · cases h
  rename_i h5
  exact ⟨by simpa using h3, feasL_0 (by simpa using h4), Classical.not_not.1 h5⟩
theorem names_all {C : Cat} (h : verErr C = 0) : namesF C.features = C.features.map Fea.name := by
  have h1 : (verL 0 none C.features []).1 = 0 := by
    unfold verErr at h
    rw [verN] at h
    by_cases h2 : (verL 0 none (LL C 0) []).1 = 0
    · exact h2
    · rw [if_pos h2] at h; exact h
  refine srt_ext (namesF_srt _) (verL_srt _ _ _ h1).2 fun x => ?_
  rw [namesF_mem, inF_iff, List.mem_map]
theorem feaErr_0 {C : Cat} {f : Fea} (h : feaErr C f = 0) : inferT C f.entity f.body = (f.type, 0) := by
  unfold feaErr at h
  split at h
  · cases h
  split at h
  · rename_i h1; exact absurd h h1
  split at h
  · rename_i h1; exact absurd h h1
  rename_i h2
  have h2 : (inferT C f.entity f.body).2 = 0 := by simpa using h2
  have h3 : (inferT C f.entity f.body).1 = f.type := by
    unfold sameT at h
    split at h
    · cases h
    split at h
    · cases h
    rename_i h4 h5
    generalize (inferT C f.entity f.body).1 = a at *
    generalize f.type = b at *
    cases a; cases b
    simp only [not_or, Classical.not_not] at h4 h5
    simp only [Ty.mk.injEq]
    exact ⟨h4.1, h5, h4.2⟩
  exact Prod.ext h3 h2
theorem inferT_tabs {C : Cat} {e0 : Str} {x : Ex} (h : (inferT C e0 x).2 = 0) : ∀ s ∈ x.tabs, (findT C.tables s).isSome = true := by
  unfold inferT at h
  split at h
  · rename_i h1; exact absurd h h1
  · exact inf_tabs x none h
theorem fits_tabs {C : Cat} (h : ∀ f ∈ C.features, feaErr C f = 0) {f : Fea} (hf : f ∈ C.features) : ∀ s ∈ usesT C.features f.body, (findT C.tables s).isSome = true := fun s hs => by
  have h1 : ∀ g ∈ C.features, ∀ s ∈ g.body.tabs, (findT C.tables s).isSome = true := fun g hg => inferT_tabs (e0 := g.entity) (by rw [feaErr_0 (h g hg)])
  rw [usesT_mem] at hs
  rcases hs with hs | ⟨n, g, _, h3, h4⟩
  · exact h1 f hf s hs
  · exact h1 g (findF_mem h3).1 s h4
theorem catalogFits_ok (c : Cat) (hc0 : c.Fits) : Pure Tryz.prog 8 [.agg c.cells] (.v (.bool true)) := by
  by_cases hs : Small c
  rotate_left
  · have hS := small_f hs
    refine Pure.runk (fun _ => 0) Tryz.func8 comp8 era8 (Nat.le_of_ble_eq_true rfl) fun σ => ?_
    repeat' (first | exact .nil | refine .k0 ?_ | refine .k1 ?_ | refine .k2 ?_ | refine .k4 ?_ | refine .k5 ?_ | refine .k7 ?_ | refine .k9 ?_ | (refine .cd ?_ ?_ <;> (intro hc; skip)) | refine .r1 ?_ ?_ | (refine .m1 ?_ ?_; intro b) | refine .an rfl (by intro hob; first | exact hS | exact example_ok | exact (Bool.noConfusion (show false = true from hob) : Sx.Pure Tryz.prog _ _ (iv 0))) ?_ ?_ | fail)
    try any_goals ((intro hob; fail))
    all_goals (try simp only [BL] at *)
    all_goals first | (show Sx.Fin _ _ _ _; (refine Sx.Fin.wk (by repeat' first | exact .refl _ | refine .cons ?_) ?_; repeat' first | exact .refl _ | fail); done) | (exfalso; exact absurd hc (by decide))
  have hS := small_t hs
  have hE := checkC_ok times_ok over_ok c hs hc0
  by_cases h0 : catErr c = 0
  rotate_left
  · generalize catErr c = ce at *
    refine Pure.runk (fun _ => 0) Tryz.func8 comp8 era8 (Nat.le_of_ble_eq_true rfl) fun σ => ?_
    repeat' (first | exact .nil | refine .k0 ?_ | refine .k1 ?_ | refine .k2 ?_ | refine .k5 ?_ | refine .k7 ?_ | refine .k9 ?_ | (refine .cd ?_ ?_ <;> (intro hc; skip)) | refine .r1 ?_ ?_ | (refine .m1 ?_ ?_; intro b) | refine .an rfl (by intro hob; first | exact hS | exact example_ok | exact hE | fail) ?_ ?_ | fail)
    try any_goals ((intro hob; fail))
    all_goals (try simp only [BL] at *)
    all_goals first | (show Sx.Fin _ _ _ _; (refine Sx.Fin.wk (by repeat' first | exact .refl _ | refine .cons ?_) ?_; repeat' first | exact .refl _ | fail); done) | exact absurd hc h0
  rw [h0] at hE
  obtain ⟨hv, hfe, hcy⟩ := catErr_0 h0
  have hO := order_ok c (cfit hs hc0)
  have hcy2 := cycL_is (deps c.features) (deps_srt c.features) (namesF_srt c.features) (fun x y h => deps_to h) (by have := namesF_len c.features; have := hs.f; omega)
  have hall : (orderL (deps c.features) (namesF c.features)).length = c.features.length := by
    rw [(order_all c.features hcy2).2 hcy, names_all hv, List.length_map]
  have hI0 := fun (i : Nat) (h : i < c.features.length) => inferC_ok times_ok over_ok c (c.features.getD i default).entity (c.features.getD i default).body (Nat.le_trans (body_size hs (getD_mem h)) (by decide))
  have hU0 := fun (i : Nat) (h : i < c.features.length) => uses_row c (c.features.getD i default).body hs hc0 (Nat.le_trans (body_size hs (getD_mem h)) (by decide)) (hc0.b _ (getD_mem h))
  have hfT := fun (i : Nat) (h : i < c.features.length) => fits_tabs hfe (getD_mem h)
  generalize orderL (deps c.features) (namesF c.features) = l at *
  clear hcy hcy2 h0 hv
  refine Pure.runk (fun _ => 0) Tryz.func8 comp8 era8 (Nat.le_of_ble_eq_true rfl) fun σ => ?_
  repeat' (first | exact .nil | refine .k0 ?_ | refine .k1 ?_ | refine .k2 ?_ | refine .k5 ?_ | refine .k6 ?_ | refine .k7 ?_ | refine .k9 ?_ | (refine .cd ?_ ?_ <;> (intro hc; skip)) | refine .r1 ?_ ?_ | (refine .m1 ?_ ?_; intro b) | refine .an rfl (by intro hob; first | exact hS | exact example_ok | exact hE | exact hO | fail) ?_ ?_ | refine .r2 ?_ ?_ | fail)
  try any_goals ((intro hob; fail))
  all_goals (try simp only [BL] at *)
  · (refine Sx.Fin.wk (by repeat' first | exact .refl _ | refine .cons ?_) ?_; repeat' first | exact .refl _ | fail)
  · exfalso; omega
  rename Nat => b1
  clear hc
  refine WK_loop (fun m rg σ' => ∃ i : Nat, i ≤ c.features.length ∧ m = c.features.length - i ∧ σ' = (1, b1, Blk.cells c.cells) :: σ ∧ rg = [(1, .lp 1 b1 0), (3, iv i)]) c.features.length rfl ⟨_, _, by repeat' first | exact .refl _ | fail, by repeat' first | exact .refl _ | fail, 0, Nat.zero_le _, rfl, rfl, rfl⟩ ?_
  rintro m _ _ ⟨i, hi, hm, rfl, rfl⟩
  have hI : i < c.features.length → Pure Tryz.prog 27 [.agg c.cells, sv (c.features.getD i default).entity, .agg (c.features.getD i default).body.row] (tyA ((c.features.getD i default).type, 0)) := fun h => by
    have := hI0 i h
    rwa [feaErr_0 (hfe _ (getD_mem h))] at this
  have hU := hU0 i
  have hT := hfT i
  generalize usesT c.features (c.features.getD i default).body = T at *
  generalize usesF c.features (c.features.getD i default).body = F at *
  repeat' (first | exact .nil | refine .k0 ?_ | refine .k1 ?_ | refine .k2 ?_ | refine .k6 ?_ | refine .k7 ?_ | refine .k8 ?_ | refine .k9 ?_ | (refine .cd ?_ ?_ <;> (intro hc; skip)) | refine .r1 ?_ ?_ | (refine .l1 ?_; intro b) | (refine .m2 ?_ ?_; intro hlen) | refine .t1 ?_ ?_ ?_ | refine .an rfl (by intro hob; first | exact example_ok | exact hI (by (simp only [BL] at *; omega)) | exact hU (by (simp only [BL] at *; omega)) | exact sameType_t _ | fail) ?_ ?_ | fail)
  try any_goals ((intro hob; first | (simp_all; done) | fail))
  all_goals (try simp only [BL] at *)
  · exact absurd trivial hc
  rotate_left
  · (refine Sx.Fin.wk (by repeat' first | exact .refl _ | refine .cons ?_) ?_; repeat' first | exact .refl _ | fail)
  clear hc
  refine WK_loop (fun m rg σ' => ∃ k : Nat, k ≤ T.length ∧ m = T.length - k ∧ σ' = (1, b1, Blk.cells c.cells) :: σ ∧ rg = [(1, .lp 1 b1 0), (3, iv i), (8, strsV T), (9, iv k)]) T.length rfl ⟨_, _, by repeat' first | exact .refl _ | fail, by repeat' first | exact .refl _ | refine .cons ?_, 0, Nat.zero_le _, rfl, rfl, rfl⟩ ?_
  rintro m2 _ _ ⟨k, hk, hm2, rfl, rfl⟩
  have hTb := tabC_ok c (T.getD k default)
  have hsome : k < T.length → (findT c.tables (T.getD k default)).isSome = true := fun h => hT (by omega) _ (getD_mem h)
  repeat' (first | exact .nil | refine .k0 ?_ | refine .k1 ?_ | refine .k2 ?_ | refine .k3 ?_ | refine .k6 ?_ | refine .k7 ?_ | refine .k8 ?_ | refine .k9 ?_ | (refine .cd ?_ ?_ <;> (intro hc; skip)) | refine .r1 ?_ ?_ | (refine .l1 ?_; intro b) | (refine .m2 ?_ ?_; intro hlen) | refine .t1 ?_ ?_ ?_ | refine .an rfl (by intro hob; first | exact hTb | fail) ?_ ?_ | fail)
  try any_goals ((intro hob; first | (simp_all; done) | fail))
  all_goals (try simp only [BL] at *)
  · rw [hsome (by omega)] at hc; cases hc
  · exact ⟨m2 - 1, by omega, _, _, by repeat' first | exact .refl _ | fail, by repeat' first | exact .refl _ | refine .cons ?_, k + 1, by omega, by omega, rfl, by rw [up1 (n := T.length) (by omega) (by assumption)]⟩
  · exact ⟨m - 1, by omega, _, _, by repeat' first | exact .refl _ | fail, by repeat' first | exact .refl _ | fail, i + 1, by omega, by omega, rfl, by rw [up1 (n := c.features.length) (by omega) (by assumption)]⟩
end Go.Proofs.YtekngilbecjkhaaGreatDoor
