
/- catalog.Order, walked. -/
import Derived.Test.YtekngilbecjkhaaGreatDoorCk
import Derived.WalkMore
set_option linter.unusedVariables false
set_option linter.unusedSimpArgs false
namespace Go.Proofs.YtekngilbecjkhaaGreatDoor
open Go.RowKit Go.Proofs Go.Tb Go.Maps
open Go.Sx (AV Inv Mem RL R M0 Glob)
set_option maxHeartbeats 4000000 in
set_option maxRecDepth 1000000 in
theorem order_walk (c : Cat) (hF : CFit c.features) {M : Mem} {w : World} (hI : Inv Tryz.prog M w [] w) {Cc : Array Value} (hC : RL M c.cells Cc.toList) :
    Calls Tryz.prog 20 #[.agg Cc] w fun e W' => ∃ v, e = .returned v ∧ names W' 9 w.heap.size v (orderL (deps c.features) (namesF c.features)) ∧ Below w.heap.size w W' := by
  have lC : Cc.size = 4 := by have := hC.1; simpa [Cat.cells] using this.symm
  have agC : Sx.aggT Tryz.prog 25 = some (true, Cc.toList.length) := by rw [Array.length_toList, lC]; kernel_rfl
  clear lC
  have hb1 : Below w.heap.size w (w.alloc (.cells Cc 25)) := ((Keep.refl w []).alloc _).below (Nat.le_refl _) (by simp)
  have hDep := deps_walk c hF (c_inv hI hb1) hC
  rw [show (w.alloc (.cells Cc 25)).heap.size = w.heap.size + 1 by simp] at hDep
  have HDep := Hd.mk hDep
  clear hDep
  have HC := Hd.mk (row_cells (heap_alloc_new w (.cells Cc 25)))
  have hmm := @run_makeMap Tryz.prog
  have hlen := hF.l
  have hmx : maxLen = 9223372036854775807 := rfl
  obtain ⟨i0, hi0, hz0, hz1, hz2⟩ := info_parts strInfo
  obtain ⟨Rel, hRel⟩ : ∃ Rel : Nat → Nat → Nat → Nat → Value → List Str → (Str → Nat) → Value → World → Prop, ∀ n bA bd lo vN L F vl wr, Rel n bA bd lo vN L F vl wr ↔ ∃ out, OSt w c.features bA bd lo vN L F out wr vl ∧ n = (namesF c.features).length - out.length := ⟨_, fun _ _ _ _ _ _ _ _ _ => Iff.rfl⟩
  have HRel := Hd.mk hRel
  clear hRel hI hC hb1
  go_enter Tryz.func20, Tryz.ntmps20
  go_wp2
  go_step3
  go_wp2_with (first
    | (show wpList _ _ _ (⟨some 10, _, _, _, _, _⟩ :: _) _ _; refine c_load rfl 25 (.tmp 1) rfl w.heap.size 0 rfl Cc HC.out agC ?_)
    | (go_at_call 48; refine HDep.out.mono ?_; rintro e w2 ⟨L, Fm, rfl, hA, hb2⟩; have HA := Hd.mk (And.intro hA hb2); clear HDep HC hA hb2)
    | (go_at_call 49; refine (keysM_call _ _).mono ?_; rintro e w3 ⟨rfl, rfl⟩)
    | (go_at_call 46; refine (sortedM_call HA.out.1.m (Nat.le_trans HA.out.1.len (by omega))).mono ?_; rintro e w4 ⟨vN, S, rfl, hS1, hS2, hS3, hS4⟩; have HS := Hd.mk (OSt.start rfl HA.out.1 HA.out.2 (HA.out.1.names hS1 hS2 ▸ hS3) (below_alloc hS4)); clear hS1 hS2 hS3 hS4 HA))
  obtain ⟨wo, hwo⟩ : ∃ wo, wo = w4.alloc (.map #[] 0) := ⟨_, rfl⟩
  rw [← hwo] at HS
  have hs4 : wo.heap.size = w4.heap.size + 1 := by rw [hwo]; simp
  have H0 : Hd (∃ n, Rel n (w.heap.size + 2) w4.heap.size (w4.heap.size + 1) vN L Fm (.slice none 0 0) wo) := ⟨⟨_, (HRel.out _ _ _ _ _ _ _ _ _).2 ⟨[], HS.out, rfl⟩⟩⟩
  rw [← hwo]
  obtain ⟨aN, capN, rfl, hlN, _⟩ := HS.out.r
  have hN9 : (namesF c.features).length ≤ 274877906944 := Nat.le_trans (namesF_len _) hlen
  clear hwo HS hs4
  go_step3
  go_wp2
  go_loopw [2] (fun vl wr => ∃ n, Rel n (w.heap.size + 2) w4.heap.size (w4.heap.size + 1) (.slice aN (namesF c.features).length capN) L Fm vl wr) (fun vl wr => mu fun n => Rel n (w.heap.size + 2) w4.heap.size (w4.heap.size + 1) (.slice aN (namesF c.features).length capN) L Fm vl wr)
  case atStart => exact H0.out
  obtain ⟨vl0, hv0⟩ : ∃ v : Value, v = u2 := ⟨u2, rfl⟩
  subst hv0
  obtain ⟨out, hS, hn⟩ := (HRel.out _ _ _ _ _ _ _ _ _).1 (mu_spec hrel)
  have HL : Hd (∀ (out' : List Str) (v' : Value) (w' : World), OSt w c.features (w.heap.size + 2) w4.heap.size (w4.heap.size + 1) (.slice aN (namesF c.features).length capN) L Fm out' w' v' → (namesF c.features).length - out'.length < (namesF c.features).length - out.length →
      (∃ n, Rel n (w.heap.size + 2) w4.heap.size (w4.heap.size + 1) (.slice aN (namesF c.features).length capN) L Fm v' w') ∧ (mu fun n => Rel n (w.heap.size + 2) w4.heap.size (w4.heap.size + 1) (.slice aN (namesF c.features).length capN) L Fm v' w') < mu fun n => Rel n (w.heap.size + 2) w4.heap.size (w4.heap.size + 1) (.slice aN (namesF c.features).length capN) L Fm vl0 wr) := ⟨fun out' v' w' h1 h2 => by
    have h4 := (HRel.out _ _ _ _ _ _ _ v' w').2 ⟨out', h1, rfl⟩
    exact ⟨⟨_, h4⟩, mu_lt h4 (by rw [hn]; exact h2)⟩⟩
  have HS := Hd.mk hS
  obtain ⟨wo2, rfl⟩ : ∃ wo2 : World, wo2 = wr := ⟨wr, rfl⟩
  clear hn hS hrel H0 HRel
  go_wp2
  go_loopw [2, 18] (fun vl i wr => ∃ k : Nat, i = .int .i64 k ∧ k ≤ (namesF c.features).length ∧ vl = vl0 ∧ Hd (OSt w c.features (w.heap.size + 2) w4.heap.size (w4.heap.size + 1) (.slice aN (namesF c.features).length capN) L Fm out wr vl0) ∧ Hd (∀ j (hj : j < (namesF c.features).length), j < k → ready (deps c.features) out (namesF c.features)[j] = false)) (fun _ i _ => (namesF c.features).length - (intOf i).toNat)
  case atStart => exact ⟨0, rfl, Nat.zero_le _, rfl, HS, ⟨fun j hj h => absurd h (by omega)⟩⟩
  clear HS
  obtain ⟨k, rfl, hk, rfl, HS, HP⟩ := hrel
  by_cases hlt : k < (namesF c.features).length
  · obtain ⟨_, _, he, _, hcell⟩ := HS.out.r
    cases he
    obtain ⟨gN, offN, rfl, hgN, hcN⟩ := hcell k hlt
    obtain ⟨s, hs⟩ : ∃ s, s = (namesF c.features)[k] := ⟨_, rfl⟩
    rw [← hs] at hcN
    have hsL : s ∈ L := (HS.out.a.l s).2 (namesF_mem.1 (hs ▸ List.getElem_mem hlt))
    have hss : s.size ≤ maxLen := HS.out.a.m.2.1 s hsL
    obtain ⟨D, hD, hDm⟩ := HS.out.a.s s hsL
    have HD := Hd.mk hD
    have HDm := Hd.mk hDm
    have Hs := Hd.mk hs
    clear hD hDm hs hcell
    go_wp2_with (first
      | (at_lookup; refine wp_in _ rfl _ _ 70 rfl Tryz.underlying9 Tryz.underlying4 Tryz.underlying70 (Tryz.zeroValue4 _) w4.heap.size out rfl HS.out.d s rfl hss ?_)
      | (at_lookup; refine wp_getm _ rfl _ _ 76 rfl Tryz.underlying9 Tryz.underlying76 (Tryz.zeroValue70 _) (w.heap.size + 2) L Fm rfl HS.out.a.m s rfl hss ?_; rw [if_pos hsL])
      | (at_range; refine wp_range _ rfl _ 70 rfl Tryz.underlying9 4 Tryz.underlying70 (plainElem Tryz.prog 4) (Fm s) D (fun _ => tt) rfl HD.out ?_; intro w6 cnt0 hrg0 hg0 hsz0))
    have H3 := Hd.mk (OIt.start HS.out hrg0 hg0)
    clear hrg0 hg0 hsz0 hcN
    obtain ⟨wo3, rfl⟩ : ∃ wo3 : World, wo3 = wr := ⟨wr, rfl⟩
    obtain ⟨b0, hb0⟩ : ∃ b0 : Bool, b0 = !decide (s ∈ out) := ⟨_, rfl⟩
    rw [← hb0] at H3
    try simp only [← hb0]
    clear hb0
    go_frame
    go_loopw [8] (fun v wr => ∃ (left : Str → Prop) (cnt : Nat) (b : Bool), v = .bool b ∧ Hd (OIt w c.features (w.heap.size + 2) w4.heap.size (w4.heap.size + 1) (.slice (some ⟨gN, offN, none⟩) (namesF c.features).length capN) L Fm out s D wo3.heap.size left cnt b wr u2)) (fun _ wr => wr.rangeLeft (Fm s) wo3.heap.size)
    case atStart => exact ⟨_, cnt0, b0, rfl, H3⟩
    obtain ⟨left, cnt, b, rfl, HR⟩ := hrel
    clear H3
    go_wp2_with (first
      | (at_next; refine wp_next _ rfl (.tmp 29) rfl Tryz.underlying9 (plainElem Tryz.prog 4) (fun _ => .bool true) (Fm s) wo3.heap.size D (fun _ => tt) (fun s _ v ps h => bool_inv Tryz.underlying4 h) left cnt rfl HR.out.q ?_ ?_))
    · intro hd
      have hb := Hd.mk (HR.out.done hd HDm.out)
      clear hd
      cases b
      · go_wp2
        go_roundw
        case rel =>
          refine ⟨k + 1, by go_num, hlt, rfl, ⟨HR.out.o⟩, ⟨fun j hj hjk => ?_⟩⟩
          rcases Nat.lt_or_eq_of_le (Nat.le_of_lt_succ hjk) with h1 | rfl
          · exact HP.out j hj h1
          · rw [← Hs.out]; exact hb.out.symm
        case measure => simp [intOf]; omega
      · have hnx : Hd (ordNext (deps c.features) (namesF c.features) out = some s) := ⟨by rw [Hs.out]; exact ordNext_at hlt HP.out (by rw [← Hs.out]; exact hb.out.symm)⟩
        have hol : out.length < (namesF c.features).length := (HR.out.o.o.step hnx.out).2
        go_wp2_with (first
          | (at_mapUpdate; refine wp_add _ rfl _ _ _ 70 rfl Tryz.underlying9 Tryz.underlying4 Tryz.underlying70 w4.heap.size out rfl HR.out.o.d (by omega) s rfl hss rfl ?_; intro w2' hset2 hg2'; have HM := Hd.mk (HR.out.o.mid hg2' (.cells #[.string s] 9)); have H2 := Hd.mk (And.intro hset2 hg2'); clear hset2 hg2')
          | (at_builtin; refine wp_append1 _ rfl (.tmp 43) (.tmp 45) 39 rfl 9 i0 (.string ⟨#[]⟩) Tryz.underlying39 hi0 hz0 hz1 hz2 rfl (w4.heap.size + 1) HM.out.2 _ out rfl HM.out.1 w2'.heap.size s rfl ((cell_at (heap_alloc_new _ _)).trans rfl) (by omega) ?_; intro vn w5' hvn hcw))
        have HE := HL.out _ vn w5' (HR.out.o.put hnx.out H2.out.1 H2.out.2 _ hvn hcw) (by simp only [List.length_append, List.length_singleton]; omega)
        go_roundw
        case rel => exact HE.1
        case measure => exact HE.2
    · intro m w' cnt' hmD hleft hrg1 hlt1 hg1 hsz1 hen
      have hms : m.size ≤ maxLen := hrg1.2.1 m hmD
      have HN := Hd.mk ((HR.out.next hmD hrg1 hg1).resolve_right fun h => h hleft)
      have HNd := Hd.mk (HR.out.o.iter HR.out.q.iter HR.out.r hg1).d
      have HLR : Hd (w'.rangeLeft (Fm s) wo3.heap.size < wr.rangeLeft (Fm s) wo3.heap.size) := ⟨by rw [hrg1.left_eq, HR.out.q.left_eq]; exact hlt1⟩
      clear hrg1 hg1
      cases b
      · go_wp2
        go_roundw
        case rel => exact ⟨_, cnt', false, rfl, HN⟩
        case measure => exact HLR.out
      · go_wp2_with (first
          | (show wpList _ _ _ (⟨some 38, _, _, _, _, some _⟩ :: _) _ _; refine wpList_unguard rfl ?_; refine wp_in _ rfl _ _ 70 rfl Tryz.underlying9 Tryz.underlying4 Tryz.underlying70 (Tryz.zeroValue4 _) w4.heap.size out rfl HNd.out m rfl hms ?_))
        go_roundw
        case rel => exact ⟨_, cnt', decide (m ∈ out), rfl, by simpa using HN⟩
        case measure => exact HLR.out
  · have hfin : Hd (out = orderL (deps c.features) (namesF c.features)) := ⟨HS.out.o.done (ordNext_no fun j hj => HP.out j hj (by omega))⟩
    have lw := HS.out.l1
    have lw2 := HS.out.l2
    go_wp2
    rw [Exit.noGoto_ret]
    go_ret
    exact ⟨_, rfl, hfin.out ▸ HS.out.v.mono (by omega), HS.out.k⟩
end Go.Proofs.YtekngilbecjkhaaGreatDoor
