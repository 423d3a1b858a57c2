
/- catalog.dependencies, walked. -/
import Derived.Test.YtekngilbecjkhaaGreatDoorCk
set_option linter.unusedVariables false
set_option linter.unusedSimpArgs false
namespace Go.Proofs.YtekngilbecjkhaaGreatDoor
open Go.RowKit Go.Proofs Go.Tb Go.Maps
open Go.Sx (AV Inv Mem RL R M0 Glob)
set_option maxHeartbeats 4000000 in
set_option maxRecDepth 1000000 in
theorem deps_walk (c : Cat) (hF : CFit c.features) {M : Mem} {w : World} (hI : Inv Tryz.prog M w [] w) {Cc : Array Value} (hC : RL M c.cells Cc.toList) :
    Calls Tryz.prog 48 #[.agg Cc] w fun e W' => ∃ L Fm, e = .returned (.map (some (w.heap.size + 1))) ∧ DepsAt W' (w.heap.size + 1) w.heap.size c.features L Fm ∧ Below w.heap.size w W' := by
  obtain ⟨v0, v2, v3, aF, cF, rfl, hlen, hFe⟩ := Cat.feats hC
  have hnil : ∀ (w : World) (r : Option Nat), (binOp .eql 70 (.map r) (.map none)).run Tryz.prog w = .ok (.bool r.isNone) w := fun w r => run_eql_map_nil w _ _ _ r Tryz.underlying70
  have hmm := @run_makeMap Tryz.prog
  have HI := Hd.mk hI
  have HF := Hd.mk hF
  have HFe := Hd.mk hFe
  have hlen2 : c.features.length ≤ 9223372036854775807 := hlen
  have hmx : maxLen = 9223372036854775807 := rfl
  clear hI hF hFe hlen hC
  have hcv : ∀ (wr : World), wr.heap[w.heap.size + 2]? = some (.cells #[.map (some (w.heap.size + 1))] 76 (0, 0)) → wr.cell? ⟨w.heap.size + 2, 0, none⟩ = some (.map (some (w.heap.size + 1))) := fun wr h => by simp [World.cell?, h]
  have HCV := Hd.mk hcv
  clear hcv
  go_enter Tryz.func48, Tryz.ntmps48
  go_wp2
  go_loopw [13] (fun i wr => ∃ (k : Nat) (L : List Str) (Fm : Str → Nat), i = .int .i64 k ∧ k ≤ c.features.length ∧ Hd (DSt w c.features k L Fm wr)) (fun i _ => c.features.length - (intOf i).toNat)
  case atStart => exact ⟨0, [], fun _ => 0, rfl, Nat.zero_le _, ⟨DSt.start w _ c.features _⟩⟩
  obtain ⟨k, L, Fm, rfl, hk, HS⟩ := hrel
  have hcell := HCV.out _ HS.out.v
  by_cases hlt : k < c.features.length
  · obtain ⟨bb, off, rfl, Cf, hRf, hl, hM⟩ := HFe.out k hlt
    obtain ⟨f, hf⟩ : ∃ f, f = c.features.getD k default := ⟨_, rfl⟩
    rw [← hf] at hRf
    obtain ⟨hz1, ho1, hn1⟩ := Fea.parts hRf
    have hag : Hd (Sx.aggT Tryz.prog 49 = some (true, Cf.toList.length)) := ⟨by rw [hl]; kernel_rfl⟩
    have agB : Hd (Sx.aggT Tryz.prog 37 = some (true, ((Cf.toList.drop 5).take 12).toArray.toList.length)) := ⟨by rw [body_len hz1]; kernel_rfl⟩
    have hsz1 : (Tryz.prog.info? 49).map (·.size) = some Cf.size := (by rw [hz1]; kernel_rfl)
    have HIr := Hd.mk (c_inv HI.out HS.out.k)
    have HM : Hd (∀ j (hj : j < Cf.toList.length), wr.cell? ⟨bb, off + k * 18 + j, none⟩ = some Cf.toList[j]) := ⟨fun j hj => HIr.out.imm _ _ _ (hM j hj)⟩
    have hnm : f.name.size ≤ maxLen := HF.out.n f (hf ▸ getD_in hlt)
    have HR := Hd.mk hRf
    have HN := Hd.mk hn1
    have Hf := Hd.mk hf
    clear hM hl hRf hn1 hf
    by_cases hin : f.name ∈ L
    · go_wp2_with (first
        | (show wpList _ _ _ (⟨some 16, _, _, _, _, _⟩ :: _) _ _; refine c_load rfl 49 (.tmp 15) rfl bb (off + k * 18) rfl Cf HM.out hag.out ?_)
        | (show wpList _ _ _ (⟨none, .store _ _ _, _, _, _, _⟩ :: _) _ _; refine wpList_store_row rfl 49 (.tmp 5) (.tmp 16) rfl wr.heap.size Cf rfl rfl 49 _ (heap_alloc_new _ _) hsz1 hz1.symm ho1 ?_; generalize hw2 : (World.setRow (World.alloc wr _) wr.heap.size Cf) = w2; have hk2 : Below wr.heap.size wr w2 := hw2 ▸ below_row _ _ _; have hr2 : w2.heap[wr.heap.size]? = some (.cells Cf 49 (0, 0)) := hw2 ▸ setRow_heap _ _ _ _ _ _ (heap_alloc_new _ _); have hs2 : w2.heap.size = wr.heap.size + 1 := hw2 ▸ (by simp [World.setRow]); have hn2 : w2.cell? ⟨wr.heap.size, 0, none⟩ = some (.string f.name) := (cell_at hr2).trans HN.out; have HS2 := Hd.mk (HS.out.to hk2); have hc2 := HCV.out _ HS2.out.v; clear hw2 hr2)
        | (at_lookup; refine wp_getm _ rfl _ _ 76 rfl Tryz.underlying9 Tryz.underlying76 (Tryz.zeroValue70 _) (w.heap.size + 1) L Fm rfl HS2.out.m f.name rfl hnm ?_; rw [if_pos hin]))
      go_roundw
      case rel => exact ⟨k + 1, L, Fm, by go_num, hlt, ⟨HS2.out.skip (Hf.out ▸ hin)⟩⟩
      case measure => simp [intOf]; omega
    · go_wp2_with (first
        | (show wpList _ _ _ (⟨some 16, _, _, _, _, _⟩ :: _) _ _; refine c_load rfl 49 (.tmp 15) rfl bb (off + k * 18) rfl Cf HM.out hag.out ?_)
        | (show wpList _ _ _ (⟨none, .store _ _ _, _, _, _, _⟩ :: _) _ _; refine wpList_store_row rfl 49 (.tmp 5) (.tmp 16) rfl wr.heap.size Cf rfl rfl 49 _ (heap_alloc_new _ _) hsz1 hz1.symm ho1 ?_; generalize hw2 : (World.setRow (World.alloc wr _) wr.heap.size Cf) = w2; have hk2 : Below wr.heap.size wr w2 := hw2 ▸ below_row _ _ _; have hr2 : w2.heap[wr.heap.size]? = some (.cells Cf 49 (0, 0)) := hw2 ▸ setRow_heap _ _ _ _ _ _ (heap_alloc_new _ _); have hs2 : w2.heap.size = wr.heap.size + 1 := hw2 ▸ (by simp [World.setRow]); have hn2 : w2.cell? ⟨wr.heap.size, 0, none⟩ = some (.string f.name) := (cell_at hr2).trans HN.out; have HS2 := Hd.mk (HS.out.to hk2); have hc2 := HCV.out _ HS2.out.v; have Hr2 := Hd.mk hr2; clear hw2 hr2)
        | (at_lookup; refine wp_getm _ rfl _ _ 76 rfl Tryz.underlying9 Tryz.underlying76 (Tryz.zeroValue70 _) (w.heap.size + 1) L Fm rfl HS2.out.m f.name rfl hnm ?_; rw [if_neg hin])
        | (show wpList _ _ _ (⟨some 24, _, _, _, _, _⟩ :: _) _ _; refine c_load rfl 37 (.tmp 23) rfl wr.heap.size 5 rfl ((Cf.toList.drop 5).take 12).toArray (body_cells _ Hr2.out hz1) agB.out ?_)
        | (go_at_call 45; refine (dep_dir HF.out (Hf.out ▸ getD_in hlt) HIr.out hk2 hs2 Hr2.out HR.out).mono ?_; rintro e w3 ⟨⟨v3', rfl⟩, hset3, hb3, hr3⟩; have hn3 : w3.cell? ⟨wr.heap.size, 0, none⟩ = some (.string f.name) := (cell_at hr3).trans HN.out; have HS3 := Hd.mk (HS.out.to hb3); have hc3 := HCV.out _ HS3.out.v; have H3 := Hd.mk (And.intro hset3 hb3); clear hset3 hb3 hr3)
        | (at_mapUpdate; refine wp_putm _ rfl _ _ _ 76 rfl Tryz.underlying9 Tryz.underlying76 (w.heap.size + 1) L Fm rfl HS3.out.m (by have := HS.out.len; omega) f.name rfl hnm (wr.heap.size + 1) rfl ?_; intro w4 hset4 hg4))
      have HE : DSt w c.features (k + 1) (ins L f.name) (fun x => if x = f.name then wr.heap.size + 1 else Fm x) w4 := by
        obtain ⟨n1, n2⟩ := HS.out.new
        have hf := Hf.out
        subst hf
        exact HS3.out.put hlt hin H3.out.1 (by omega) (fun n hn => by have := n2 n hn; omega) hset4 hg4
      go_roundw
      case rel => exact ⟨k + 1, _, _, by go_num, hlt, ⟨HE⟩⟩
      case measure => simp [intOf]; omega
  · obtain rfl : k = c.features.length := by omega
    go_wp2_with (at_range; refine wp_range _ rfl _ 76 rfl Tryz.underlying9 70 Tryz.underlying76 mapElem (w.heap.size + 1) L (fun s => .lit (.int .i64 (Fm s))) rfl HS.out.m ?_; intro w4r cnt0 hrg0 hg0 hsz0)
    have H0 := Hd.mk (DIn.start HS.out hrg0 hg0)
    clear hrg0 hg0 hsz0 hcell
    obtain ⟨wo, rfl⟩ : ∃ wo : World, wo = wr := ⟨wr, rfl⟩
    go_frame
    go_loopw [8] (fun _ wr => ∃ left cnt, Hd (DIn w c.features L Fm wo.heap.size left cnt wr)) (fun _ wr => wr.rangeLeft (w.heap.size + 1) wo.heap.size)
    case atStart => exact ⟨_, cnt0, H0⟩
    clear H0
    obtain ⟨left, cnt, HR⟩ := hrel
    have hcell := HCV.out _ HR.out.v
    go_wp2_with (first
      | (at_next; refine wp_next _ rfl (.tmp 34) rfl Tryz.underlying9 mapElem (fun s => .map (some (Fm s))) (w.heap.size + 1) wo.heap.size L (fun s => .lit (.int .i64 (Fm s))) (fun s _ v ps h => mapElem_some h) left cnt rfl HR.out.q ?_ ?_))
    · intro hd
      have HD := Hd.mk hd
      clear hd
      go_wp2
      go_ret
      exact ⟨L, Fm, rfl, HR.out.done HD.out, HR.out.k⟩
    · intro s1 w' cnt' hsL hleft hrg1 hlt hg1 hsz1 hen
      obtain ⟨f, hf, h1, h2, h3, h4, h5⟩ := HR.out.step hsL hleft hrg1 hg1
      have HC := Hd.mk (strike_call h1 h2 h3 h4)
      have H5 := Hd.mk h5
      have HL : Hd (w'.rangeLeft (w.heap.size + 1) wo.heap.size = cnt' ∧ wr.rangeLeft (w.heap.size + 1) wo.heap.size = cnt) := ⟨hrg1.left_eq, HR.out.q.left_eq⟩
      clear hf h1 h2 h4 h5 hrg1 hg1 hcell
      go_wp2_with (first
        | (go_at_call 76; refine HC.out.mono ?_; rintro e w2 ⟨rfl, hs2, hg2⟩; have HE := Hd.mk (H5.out w2 hs2 hg2); clear hs2 hg2))
      go_roundw
      case rel => exact ⟨_, cnt', HE⟩
      case measure => rw [HE.out.q.left_eq, HL.out.2]; exact hlt
end Go.Proofs.YtekngilbecjkhaaGreatDoor
