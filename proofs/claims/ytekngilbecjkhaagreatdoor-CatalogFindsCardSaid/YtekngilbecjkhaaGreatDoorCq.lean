
/- catalog.Cycle, walked. -/
import Derived.Test.YtekngilbecjkhaaGreatDoorCp
import Derived.Lib.SliceRun
set_option linter.unusedVariables false
set_option linter.unusedSimpArgs false
namespace Go.Proofs.YtekngilbecjkhaaGreatDoor
open Go.RowKit Go.Proofs Go.Tb Go.Maps
open Go.Sx (AV Inv Mem RL R M0 Glob)
def LAt (base : Nat) (wr : World) (v : Value) (l : List Str) : Prop := (l = [] ∧ v = .slice none 0 0) ∨ ∃ g cap, v = .slice (some ⟨g, 0, none⟩) l.length cap ∧ 0 < l.length ∧ l.length ≤ maxLen ∧ wr.ownsRow base 9 1 v l.length (l.map .string)
theorem LAt.below {base : Nat} {w w' : World} {v : Value} {l : List Str} (h : LAt base w v l) (hb : Below w.heap.size w w') : LAt base w' v l := by
  rcases h with h | ⟨g, cap, h1, h2, h3, h4⟩
  · exact .inl h
  · exact .inr ⟨g, cap, h1, h2, h3, own_below h4 hb⟩
theorem LAt.of_own {base n : Nat} {w : World} {v : Value} {l : List Str} (h0 : 0 < l.length) (h : w.ownsRow base 9 1 v n (l.map .string)) : LAt base w v l := by
  have h1 := h.1
  rw [List.length_map, Nat.mul_one] at h1
  subst h1
  obtain ⟨g, cap, rfl⟩ := own_shape h h0
  refine .inr ⟨g, cap, rfl, h0, ?_, h⟩
  rcases h.2 with ⟨h2, _⟩ | ⟨g', cap', cur, h2, _, _, h3, h4, _⟩
  · cases h2
  · omega
theorem LAt.mono {base base' : Nat} {w : World} {v : Value} {l : List Str} (h : LAt base w v l) (hb : base' ≤ base) : LAt base' w v l := by
  rcases h with h | ⟨g, cap, h1, h2, h3, h4⟩
  · exact .inl h
  · exact .inr ⟨g, cap, h1, h2, h3, own_mono h4 hb⟩
theorem LAt.names {base : Nat} {w : World} {v : Value} {l : List Str} (h : LAt base w v l) : names w 9 base v l := by
  rcases h with ⟨rfl, rfl⟩ | ⟨g, cap, _, _, _, h⟩
  · exact ⟨none, 0, rfl, by simp, by simp, fun h => absurd h (by omega)⟩
  · exact names.of_row h
structure CSt (w : World) (fs : List Fea) (bA lo : Nat) (vN : Value) (L : List Str) (F : Str → Nat) (k : Nat) (l : List Str) (wr : World) (vl : Value) : Prop where
  v : LAt w.heap.size wr vl l
  c : CInv (deps fs) (namesF fs) k l
  a : DepsAt wr bA (w.heap.size + 1) fs L F
  k : Below w.heap.size w wr
  r : RowAt wr lo vN (namesF fs)
theorem CSt.below {w : World} {fs : List Fea} {bA lo : Nat} {vN : Value} {L : List Str} {F : Str → Nat} {k : Nat} {l : List Str} {wr w' : World} {vl : Value} (h : CSt w fs bA lo vN L F k l wr vl) (hb : Below wr.heap.size wr w') : CSt w fs bA lo vN L F k l w' vl :=
  ⟨h.v.below hb, h.c, h.a.below hb, h.k.trans (c_less hb h.k.size), h.r.to (.below hb)⟩
theorem CSt.turn {w : World} {fs : List Fea} {bA lo : Nat} {vN : Value} {L : List Str} {F : Str → Nat} {k k' : Nat} {l l' : List Str} {wr : World} {vl vl' : Value} (h : CSt w fs bA lo vN L F k l wr vl) (hv : LAt w.heap.size wr vl' l') (hc : CInv (deps fs) (namesF fs) k' l') : CSt w fs bA lo vN L F k' l' wr vl' :=
  ⟨hv, hc, h.a, h.k, h.r⟩
theorem CSt.start {w w1 w2 w4 : World} {fs : List Fea} {bA : Nat} {o : Obj} {vN : Value} {L : List Str} {F : Str → Nat} {e : TypeId} {l0 : Nat} (hw1 : w1 = w.alloc o) (ha : DepsAt w2 bA (w.heap.size + 1) fs L F) (hb : Below (w.heap.size + 1) w1 w2) (hn : names w4 e l0 vN (namesF fs)) (h4 : Below w2.heap.size w2 w4) :
    CSt w fs bA w4.heap.size vN L F 0 [] w4 (.slice none 0 0) := by
  subst hw1
  have l1 := hb.size
  have hb0 : Below w.heap.size w w2 := below_alloc hb
  simp at l1
  exact ⟨.inl ⟨rfl, rfl⟩, CInv.start _ _, ha.below h4, hb0.trans (c_less h4 (by omega)), RowAt.of_names hn (Nat.le_refl _)⟩
set_option maxHeartbeats 4000000 in
set_option maxRecDepth 1000000 in
theorem cycle_walk (c : Cat) (hF : CFit c.features) {M : Mem} {w : World} (hI : Inv Tryz.prog M w [] w) {Cc : Array Value} (hC : RL M c.cells Cc.toList) :
    Calls Tryz.prog 18 #[.agg Cc] w fun e W' => ∃ v, e = .returned v ∧ names W' 9 w.heap.size v (cycL (deps c.features) (namesF c.features)) ∧ Below w.heap.size w W' := by
  have lC : Cc.size = 4 := by have := hC.1; simpa [Cat.cells] using this.symm
  have agC : Sx.aggT Tryz.prog 25 = some (true, Cc.toList.length) := by rw [Array.length_toList, lC]; kernel_rfl
  clear lC
  have hb1 : Below w.heap.size w (w.alloc (.cells Cc 25)) := ((Keep.refl w []).alloc _).below (Nat.le_refl _) (by simp)
  have hDep := deps_walk c hF (c_inv hI hb1) hC
  rw [show (w.alloc (.cells Cc 25)).heap.size = w.heap.size + 1 by simp] at hDep
  have HDep := Hd.mk hDep
  clear hDep
  have HC := Hd.mk (row_cells (heap_alloc_new w (.cells Cc 25)))
  have hlen := hF.l
  have hmx : maxLen = 9223372036854775807 := rfl
  have hneq : ∀ (w : World) (a : Option Addr) (n k : Nat), (binOp .neq 39 (.slice a n k) (.slice none 0 0)).run Tryz.prog w = .ok (.bool (!a.isNone)) w := fun w a n k => run_neq_slice_nil_any w _ _ a n k 0 0 Tryz.underlying39
  have heql : ∀ (w : World) (a : Option Addr) (n k : Nat), (binOp .eql 39 (.slice a n k) (.slice none 0 0)).run Tryz.prog w = .ok (.bool a.isNone) w := fun w a n k => Lib.run_eql_slice_nil w _ _ a n k 0 0 Tryz.underlying39
  clear hI hC hb1
  go_enter Tryz.func18, Tryz.ntmps18
  go_wp2_with (first
    | (show wpList _ _ _ (⟨some 7, _, _, _, _, _⟩ :: _) _ _; refine c_load rfl 25 (.tmp 1) rfl w.heap.size 0 rfl Cc HC.out agC ?_)
    | (go_at_call 48; refine HDep.out.mono ?_; rintro e w2 ⟨L, Fm, rfl, hA, hb2⟩; have HA := Hd.mk (And.intro hA hb2); clear HDep HC hA hb2)
    | (go_at_call 49; refine (keysM_call _ _).mono ?_; rintro e w3 ⟨rfl, rfl⟩)
    | (go_at_call 46; refine (sortedM_call HA.out.1.m (Nat.le_trans HA.out.1.len (by omega))).mono ?_; rintro e w4 ⟨vN, S, rfl, hS1, hS2, hS3, hS4⟩; have HS := Hd.mk (CSt.start rfl HA.out.1 HA.out.2 (HA.out.1.names hS1 hS2 ▸ hS3) (below_alloc hS4)); have hS5 := HA.out.1.names hS1 hS2; subst hS5; obtain ⟨aN, capN, rfl⟩ := hS3.shape; clear hS1 hS2 hS3 hS4 HA))
  have hN9 : (namesF c.features).length ≤ 274877906944 := Nat.le_trans (namesF_len _) hlen
  go_loopw [2, 13] (fun vl i wr => ∃ (k : Nat) (l : List Str), i = .int .i64 k ∧ k ≤ (namesF c.features).length ∧ Hd (CSt w c.features (w.heap.size + 2) w4.heap.size (.slice aN (namesF c.features).length capN) L Fm k l wr vl)) (fun _ i _ => (namesF c.features).length - (intOf i).toNat)
  case atStart => exact ⟨0, [], rfl, Nat.zero_le _, HS⟩
  clear HS
  obtain ⟨k, l, rfl, hk, HS⟩ := hrel
  by_cases hlt : k < (namesF c.features).length
  · obtain ⟨_, _, he, _, hcell⟩ := HS.out.r
    cases he
    obtain ⟨gN, offN, rfl, hgN, hcN⟩ := hcell k hlt
    obtain ⟨s, hs⟩ : ∃ s, s = (namesF c.features)[k] := ⟨_, rfl⟩
    rw [← hs] at hcN
    have HSh := Hd.mk (shortest_walk c.features hlen HS.out.a s (hs ▸ List.getElem_mem hlt))
    have Hs := Hd.mk hs
    clear hs hcell
    go_wp2_with (go_at_call 50; refine HSh.out.mono ?_; rintro e w5 ⟨v5, rfl, hb5, hr5⟩; have HS5 := Hd.mk (HS.out.below hb5); have HR5 : Hd ((v5 = .slice none 0 0 ∧ ∀ q, ¬ Cyc (deps c.features) s q) ∨ ∃ q g5 cap5, v5 = .slice (some ⟨g5, 0, none⟩) (q.length + 1) cap5 ∧ q.length + 1 ≤ maxLen ∧ Best (deps c.features) s q ∧ LAt w.heap.size w5 v5 (s :: q)) := ⟨by rcases hr5 with h | ⟨q, h1, n, h2⟩; exact .inl h; have h3 := (LAt.of_own (by simp) h2).mono HS.out.k.size; rcases h3 with ⟨h4, _⟩ | ⟨g5, cap5, h5, h6, h7, h8⟩; cases h4; exact .inr ⟨q, g5, cap5, h5, h7, h1, .inr ⟨g5, cap5, h5, h6, h7, h8⟩⟩⟩; clear HSh hb5 hr5 hcN; rcases HR5.out with ⟨rfl, hno⟩ | ⟨q, g5, cap5, rfl, hq5, hB, hq⟩ <;> rcases HS5.out.v with ⟨rfl, rfl⟩ | ⟨gl, capl, rfl, hl1, hl2, hl3⟩)
    all_goals have hs := Hs.out; subst hs
    · go_roundw
      case rel => exact ⟨k + 1, _, by go_num, hlt, ⟨HS5.out.turn HS5.out.v (HS5.out.c.none hlt hno)⟩⟩
      case measure => simp [intOf]; omega
    · go_roundw
      case rel => exact ⟨k + 1, _, by go_num, hlt, ⟨HS5.out.turn HS5.out.v (HS5.out.c.none hlt hno)⟩⟩
      case measure => simp [intOf]; omega
    · go_roundw
      case rel => exact ⟨k + 1, _, by go_num, hlt, ⟨HS5.out.turn hq (HS5.out.c.take hlt hB (.inl rfl))⟩⟩
      case measure => simp [intOf]; omega
    · go_roundw
      case rel => exact ⟨k + 1, _, by go_num, hlt, ⟨HS5.out.turn hq (HS5.out.c.take hlt hB (.inr (by omega)))⟩⟩
      case measure => simp [intOf]; omega
    · go_roundw
      case rel => exact ⟨k + 1, _, by go_num, hlt, ⟨HS5.out.turn HS5.out.v (HS5.out.c.skip hlt hB (by intro e; rw [e] at hl1; simp at hl1) (by omega))⟩⟩
      case measure => simp [intOf]; omega
  · have hfin : Hd (l = cycL (deps c.features) (namesF c.features)) := ⟨by have h := HS.out.c; rw [show k = (namesF c.features).length by omega] at h; exact h.done (namesF_srt _)⟩
    go_wp2
    go_ret
    exact ⟨_, rfl, hfin.out ▸ HS.out.v.names, HS.out.k⟩
end Go.Proofs.YtekngilbecjkhaaGreatDoor
