
/- catalog.shortest, walked. -/
import Derived.Test.YtekngilbecjkhaaGreatDoorCo
set_option linter.unusedVariables false
set_option linter.unusedSimpArgs false
namespace Go.Proofs.YtekngilbecjkhaaGreatDoor
open Go.RowKit Go.Proofs Go.Tb Go.Maps
open Go.Sx (AV Inv Mem RL R M0 Glob)
theorem pthInfo : (Tryz.prog.info? 39).map (fun i => (i.zero, i.size, i.bytes)) = some (some (.slice none 0 0), 1, 24) := by kernel_rfl
set_option maxHeartbeats 4000000 in
set_option maxRecDepth 1000000 in
theorem shortest_walk (fs : List Fea) (hlen : fs.length ≤ 274877906944) {w : World} {bA lo : Nat} {L : List Str} {Fm : Str → Nat} (hA : DepsAt w bA lo fs L Fm) (a : Str) (ha : a ∈ namesF fs) :
    Calls Tryz.prog 50 #[.map (some bA), .string a] w fun e W' => ∃ v, e = .returned v ∧ Below w.heap.size w W' ∧ ((v = .slice none 0 0 ∧ ∀ q, ¬ Cyc (deps fs) a q) ∨ ∃ q, Best (deps fs) a q ∧ ∃ n, W'.ownsRow w.heap.size 9 1 v n ((a :: q).map .string)) := by
  have hN := namesF_len fs
  have hmm := @run_makeMap Tryz.prog
  have hmx : maxLen = 9223372036854775807 := rfl
  have haL : a ∈ L := (hA.l a).2 (namesF_mem.1 ha)
  have has : a.size ≤ maxLen := hA.m.2.1 a haL
  obtain ⟨i0, hi0, hz0, hz1, hz2⟩ := info_parts strInfo
  obtain ⟨i1, hi1, hy0, hy1, hy2⟩ := info_parts pthInfo
  obtain ⟨Rel, hRel⟩ : ∃ Rel : Nat → Value → World → Prop, ∀ n v wr, Rel n v wr ↔ ∃ k P vals S, PRow w.heap.size a (k + 1) P vals v wr ∧ SetAt wr w.heap.size S ∧ Below w.heap.size w wr ∧ BInv (deps fs) a k P S ∧ k ≤ (namesF fs).length + 1 ∧ n = (namesF fs).length + 1 - k := ⟨_, fun _ _ _ => Iff.rfl⟩
  have H0 : Hd (∃ n, Rel n (.slice (some ⟨w.heap.size + 2, 0, none⟩) 1 1) (((w.alloc (.map #[] 0)).alloc (.cells #[.string a] 9)).alloc (.cells #[.slice (some ⟨w.heap.size + 1, 0, none⟩) 1 1] 39))) := by
    obtain ⟨h1, h2, h3⟩ := PRow.first w a
    exact ⟨⟨_, (hRel _ _ _).2 ⟨0, _, _, _, h1, h2, h3, BInv.start _ _, Nat.zero_le _, rfl⟩⟩⟩
  have HRel := Hd.mk hRel
  have HA := Hd.mk hA
  have Ha := Hd.mk ha
  clear hRel hA ha haL
  go_enter Tryz.func50, Tryz.ntmps50
  go_wp2
  go_loopw [6] (fun v wr => ∃ n, Rel n v wr) (fun v wr => mu fun n => Rel n v wr)
  case atStart => exact H0.out
  clear H0
  obtain ⟨k, P, vals, S, hP, hS, hB, hI, hk, hn⟩ := (HRel.out _ _ _).1 (mu_spec hrel)
  obtain ⟨wo, rfl⟩ : ∃ wo : World, wo = wr := ⟨wr, rfl⟩
  by_cases hne : P = []
  · subst hne
    rcases hP.r.2 with ⟨rfl, _⟩ | ⟨g, cap, cur, rfl, _⟩
    all_goals
      have Hno := Hd.mk hI.none
      clear hn hrel HRel hI hP
      go_wp2
      go_ret
      exact ⟨_, rfl, hB, .inl ⟨rfl, Hno.out⟩⟩
  · have hk9 : k ≤ 274877906944 := by have := hI.z hne; have := hI.sub' Ha.out; omega
    have hPl : 0 < P.length := List.length_pos_iff.2 hne
    obtain ⟨gp, capP, rfl, hPm⟩ : ∃ gp capP, u6 = .slice (some ⟨gp, 0, none⟩) P.length capP ∧ P.length ≤ maxLen := by
      rcases hP.r.2 with ⟨_, h⟩ | ⟨g, cap, cur, h, _, _, h1, h2, _⟩
      · omega
      · exact ⟨g, cap, h, by omega⟩
    have HL : Hd (∀ (P' : List (List Str)) (vals' : List Value) (S' : List Str) (v' : Value) (w' : World), PRow w.heap.size a (k + 1 + 1) P' vals' v' w' → SetAt w' w.heap.size S' → Below w.heap.size w w' → BInv (deps fs) a (k + 1) P' S' → (∃ n, Rel n v' w') ∧ (mu fun n => Rel n v' w') < mu fun n => Rel n (.slice (some ⟨gp, 0, none⟩) P.length capP) wo) := ⟨fun P' vals' S' v' w' h1 h2 h3 h4 => by
      have h5 : k ≤ (namesF fs).length := Nat.le_trans (hI.z hne) (hI.sub' Ha.out)
      have h6 := (HRel.out _ v' w').2 ⟨k + 1, P', vals', S', h1, h2, h3, h4, by omega, rfl⟩
      exact ⟨⟨_, h6⟩, mu_lt h6 (by rw [hn]; omega)⟩⟩
    have H2 := Hd.mk (L2.start Ha.out hP hS hB hI)
    have HI := Hd.mk hI
    clear hn hrel HRel hP hS hB hI hne
    go_wp2
    go_loopw [7, 22] (fun vl i wr => ∃ (i' : Nat) (valsQ : List Value) (t : List (List Str) × List Str), i = .int .i64 i' ∧ i' ≤ P.length ∧ Hd (L2 fs w a w.heap.size wo.heap.size k P vals (.slice (some ⟨gp, 0, none⟩) P.length capP) S i' valsQ t wr vl)) (fun _ i _ => P.length - (intOf i).toNat)
    case atStart => exact ⟨0, [], _, rfl, Nat.zero_le _, H2⟩
    clear H2
    obtain ⟨i, valsQ, t, rfl, hi, HS⟩ := hrel
    by_cases hlt : i < P.length
    · obtain ⟨_, _, g2, cap2, he, hc1, hc2, hown, hvi⟩ := HS.out.s.p.at hlt (HI.out.p _ (List.getElem_mem hlt)).2
      cases he
      obtain ⟨p, hp⟩ : ∃ p, p = P[i] := ⟨_, rfl⟩
      rw [← hp] at hc2 hown
      have hpth : Pth (deps fs) a p := hp ▸ (HI.out.p _ (List.getElem_mem hlt)).1
      obtain ⟨z, hz⟩ : ∃ z, z = lst a p := ⟨_, rfl⟩
      rw [← hz] at hc2
      have hzL : z ∈ L := (HA.out.l z).2 (namesF_mem.1 (hz ▸ pth_in Ha.out hpth))
      have hzs : z.size ≤ maxLen := HA.out.m.2.1 z hzL
      have HAr := Hd.mk (HA.out.below HS.out.s.k)
      obtain ⟨D, hD, hDm⟩ := HAr.out.s z hzL
      have HD := Hd.mk hD
      have HDm := Hd.mk hDm
      have Hp := Hd.mk hp
      have Hz := Hd.mk hz
      have HO := Hd.mk hown
      have HVi := Hd.mk hvi
      clear hvi hD hDm hp hz hown hpth
      by_cases hfound : a ∈ D
      · have HB := Hd.mk (HI.out.found (List.getElem?_eq_getElem hlt) (by have := (HDm.out a).1 hfound; rw [Hz.out, Hp.out] at this; exact this) (fun j hj q hq => by obtain ⟨hj', rfl⟩ := List.getElem?_eq_some_iff.1 hq; exact HS.out.no j hj' hj))
        go_wp2_with (first
          | (at_lookup; refine wp_getm _ rfl _ _ 76 rfl Tryz.underlying9 Tryz.underlying76 (Tryz.zeroValue70 _) bA L Fm rfl HAr.out.m z rfl hzs ?_; rw [if_pos hzL])
          | (at_lookup; refine wp_in _ rfl _ _ 70 rfl Tryz.underlying9 Tryz.underlying4 Tryz.underlying70 (Tryz.zeroValue4 _) (Fm z) D rfl HD.out a rfl has ?_; rw [decide_eq_true hfound]))
        go_ret
        exact ⟨_, rfl, HS.out.s.k, .inr ⟨p, by rw [Hp.out]; exact HB.out, _, HO.out⟩⟩
      · have hno : Hd (a ∉ deps fs (lst a P[i])) := ⟨fun h => hfound ((HDm.out a).2 (by rw [Hz.out, Hp.out]; exact h))⟩
        have hDl : Hd (D.length ≤ 4398046511104) := ⟨by have := nodup_le HD.out.1 (b := namesF fs) (fun m hm => deps_to ((HDm.out m).1 hm)); omega⟩
        go_wp2_with (first
          | (at_lookup; refine wp_getm _ rfl _ _ 76 rfl Tryz.underlying9 Tryz.underlying76 (Tryz.zeroValue70 _) bA L Fm rfl HAr.out.m z rfl hzs ?_; rw [if_pos hzL])
          | (at_lookup; refine wp_in _ rfl _ _ 70 rfl Tryz.underlying9 Tryz.underlying4 Tryz.underlying70 (Tryz.zeroValue4 _) (Fm z) D rfl HD.out a rfl has ?_; rw [decide_eq_false hfound])
          | (go_at_call 47; refine (keysB_call _ _).mono ?_; rintro e w6 ⟨rfl, rfl⟩)
          | (go_at_call 46; refine (sortedB_call HD.out hDl.out).mono ?_; rintro e w5 ⟨v40, S40, rfl, hs1, hs2, hs3, hs4⟩; have hS40 : S40 = deps fs (lst a p) := srt_ext hs1 (deps_srt _ _) (fun x => by rw [hs2, HDm.out, Hz.out]); subst hS40; have H3 := Hd.mk (L3.start HS.out (below_alloc hs4) hs3); obtain ⟨a40, cap40, rfl⟩ := hs3.shape; clear hs1 hs2 hs3 hs4))
        have hdl : (deps fs (lst a p)).length ≤ 274877906944 := by have := nodup_le (srt_nodup (deps_srt fs (lst a p))) (b := namesF fs) (fun m hm => deps_to hm); omega
        obtain ⟨wo2, rfl⟩ : ∃ wo2 : World, wo2 = wr := ⟨wr, rfl⟩
        go_loopw [7, 42] (fun vl i wr => ∃ (j : Nat) (valsQ' : List Value) (t' : List (List Str) × List Str), i = .int .i64 j ∧ j ≤ (deps fs (lst a p)).length ∧ Hd (L3 fs w a w.heap.size wo.heap.size k P vals (.slice (some ⟨gp, 0, none⟩) P.length capP) p t (.slice a40 (deps fs (lst a p)).length cap40) j valsQ' t' wr vl)) (fun _ i _ => (deps fs (lst a p)).length - (intOf i).toNat)
        case atStart => exact ⟨0, valsQ, t, rfl, Nat.zero_le _, H3⟩
        clear H3 hc1 hc2 HO
        obtain ⟨j, valsQ', t', rfl, hj, HR⟩ := hrel
        by_cases hjl : j < (deps fs (lst a p)).length
        · obtain ⟨g40, off40, c40, he, hc40⟩ := HR.out.v.cell hjl
          cases he
          obtain ⟨s, hs⟩ : ∃ s, s = (deps fs (lst a p))[j] := ⟨_, rfl⟩
          rw [← hs] at hc40
          have hss : s.size ≤ maxLen := HA.out.m.2.1 s ((HA.out.l s).2 (namesF_mem.1 (hs ▸ deps_to (List.getElem_mem hjl))))
          have Hs := Hd.mk hs
          clear hs
          obtain ⟨l1, l2⟩ := HR.out.len
          by_cases hin : s ∈ t'.2
          · go_wp2_with (at_lookup; refine wp_in _ rfl _ _ 70 rfl Tryz.underlying9 Tryz.underlying4 Tryz.underlying70 (Tryz.zeroValue4 _) w.heap.size t'.2 rfl HR.out.s.s s rfl hss ?_; rw [decide_eq_true hin])
            go_roundw
            case rel => exact ⟨j + 1, valsQ', t', by go_num, hjl, ⟨HR.out.seen hjl (by rw [← Hs.out]; exact hin)⟩⟩
            case measure => simp [intOf]; omega
          · have Hin : Hd ((deps fs (lst a p))[j] ∉ t'.2) := ⟨by rw [← Hs.out]; exact hin⟩
            go_wp2_with (first
              | (at_lookup; refine wp_in _ rfl _ _ 70 rfl Tryz.underlying9 Tryz.underlying4 Tryz.underlying70 (Tryz.zeroValue4 _) w.heap.size t'.2 rfl HR.out.s.s s rfl hss ?_; rw [decide_eq_false hin])
              | (at_mapUpdate; refine wp_add _ rfl _ _ _ 70 rfl Tryz.underlying9 Tryz.underlying4 Tryz.underlying70 w.heap.size t'.2 rfl HR.out.s.s (by omega) s rfl hss rfl ?_; intro w1 hset1 hg1; have HS1 := Hd.mk (HR.out.s.mark hset1 hg1); have H1 := Hd.mk (And.intro hset1 hg1); clear hset1 hg1)
              | (go_at_call 79; refine (clone_call (q := p) HS1.out hk9 (by rw [Hp.out]; exact HS1.out.p.own HVi.out hlt)).mono ?_; rintro e w2 ⟨v1, rfl, hr2, hb2⟩; have H2 := Hd.mk (And.intro hr2 hb2); clear hr2 hb2)
              | (at_builtin; refine wpList_append_own _ rfl (.tmp 54) (.tmp 56) 39 rfl w1.heap.size 9 i0 (.string ⟨#[]⟩) 1 16 Tryz.underlying39 hi0 hz0 hz1 hz2 rfl (by decide) v1 (k + 1) _ rfl (H2.out.1.alloc _) ⟨w2.heap.size, 0, none⟩ 1 1 [.string s] rfl rfl (cell1 _ _ _) (str_one s) (by omega) (by omega) (by have := H2.out.2.size; simp; omega) ?_; intro u3 w3 hr3 hg3 _; obtain ⟨g5, cap5, rfl⟩ := own_shape hr3 (by omega); have H3 := Hd.mk (And.intro hr3 hg3); have H4 := Hd.mk (step_room HS1.out H2.out.1 H2.out.2 hg3 (.cells #[.slice (some ⟨g5, 0, none⟩) (k + 1 + 1) cap5] 39)); clear hr3 hg3)
              | (at_builtin; refine wpList_append_own _ rfl (.tmp 52) (.tmp 58) 111 rfl wo.heap.size 39 i1 (.slice none 0 0) 1 24 Tryz.underlying111 hi1 hy0 hy1 hy2 rfl (by decide) u7 t'.1.length valsQ' rfl H4.out.1 ⟨w3.heap.size, 0, none⟩ 1 1 [.slice (some ⟨g5, 0, none⟩) (k + 1 + 1) cap5] rfl rfl (cell1 _ _ _) (own_one H3.out.1) (by omega) (by omega) H4.out.2 ?_; intro u4 w4 hr4 hg4 _))
            have HE := HR.out.step hjl Hin.out (by rw [← Hs.out]; exact H1.out.1) H1.out.2 H2.out.1 H2.out.2 (by rw [← Hs.out]; exact H3.out.1) H3.out.2 hr4 hg4
            go_roundw
            case rel => exact ⟨j + 1, _, _, by go_num, hjl, ⟨HE⟩⟩
            case measure => simp [intOf]; omega
        · have HE := Hd.mk (L3.done hlt HS.out (by rw [← Hp.out]; exact HR.out) (by rw [← Hp.out]; omega) hno.out)
          go_wp2
          go_roundw
          case rel => exact ⟨i + 1, _, _, by go_num, hlt, HE⟩
          case measure => simp [intOf]; omega
    · have Hn : Hd (∀ q ∈ P, a ∉ deps fs (lst a q)) := ⟨fun q hq => by obtain ⟨j, hj, rfl⟩ := List.getElem_of_mem hq; exact HS.out.no j hj (by omega)⟩
      have ht : t = extL (deps fs) a P ([], S) := by rw [HS.out.e, List.take_of_length_le (by omega)]
      have HB := Hd.mk (HI.out.next (fun n => deps_srt fs n) Hn.out)
      have HP2 := Hd.mk (HS.out.s.q.mono HS.out.s.l)
      subst ht
      have HE := Hd.mk (HL.out _ _ _ _ _ HP2.out HS.out.s.s HS.out.s.k HB.out)
      go_wp2
      go_roundw
      case rel => exact HE.out.1
      case measure => exact HE.out.2
end Go.Proofs.YtekngilbecjkhaaGreatDoor
