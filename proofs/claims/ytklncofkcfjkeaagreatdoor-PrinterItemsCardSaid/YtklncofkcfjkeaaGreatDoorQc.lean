
/- printer.Module, walked by the kit's own steps (its Builder is none of the layer's). -/
import Derived.Test.YtklncofkcfjkeaaGreatDoorQb
import Derived.Test.YtklncofkcfjkeaaGreatDoorShelfB
import Derived.Test.YtklncofkcfjkeaaGreatDoorPv
import Derived.Test.YtklncofkcfjkeaaGreatDoorSxB
import Derived.BigCall
set_option linter.unusedVariables false
set_option linter.unusedSimpArgs false
namespace Go.Proofs.YtklncofkcfjkeaaGreatDoor
open Go.RowKit Go.Proofs
open Go.Sx (AV Inv Mem RL R M0 Glob)
theorem gw_mono {w0 w : World} (h : Glob.gw Tryz.prog w0) (hb : Below w0.heap.size w0 w) : Glob.gw Tryz.prog w := by
  obtain ⟨h1, h2⟩ := h
  refine ⟨?_, Nat.lt_of_lt_of_le h2 hb.size⟩
  have hG : Tryz.prog.globalNamed "internal/strconv.uint64pow10" = some 4 := by kernel_rfl
  unfold Lib.TabIs World.var? at *
  rw [hG] at h1 ⊢
  simp only [Option.bind_some] at h1 ⊢
  rw [hb.block _ h2]; exact h1
theorem below_less {B B' : Nat} {a c : World} (h : Below B a c) (hB : B' ≤ B) : Below B' a c := ⟨h.os, h.tape, h.output, h.size, fun k hk => h.block k (Nat.lt_of_lt_of_le hk hB)⟩
/-- Begun anew in a later world. -/
theorem inv_at {M : Mem} {w0 w W : World} {σ : Sx.Store} (hI : Inv Tryz.prog M w0 σ w) (hb : Below w.heap.size w W) : Inv Tryz.prog M W [] W := by
  have h := hI.after hb
  exact ⟨rfl, rfl, rfl, Nat.le_refl _, fun _ _ => rfl, h.imm, fun e he => (by cases he), List.Pairwise.nil, h.gl, gw_mono h.gw ⟨h.os, h.tape, h.output, h.size, h.old⟩⟩
theorem call_at {f : FuncId} {xs : List AV} {s : Str} {n : Int} (h : Sx.Pure Tryz.prog f xs (.tup [sv s, iv n])) {M : Mem} {W : World} (hI : Inv Tryz.prog M W [] W) {cs : List Value} (hR : RL M xs cs) :
    Calls Tryz.prog f cs.toArray W fun e W' => e = .returned (.tuple #[.string s, .int .i64 n]) ∧ Below W.heap.size W W' := by
  refine (h.sp [] M W W cs hI hR).mono fun e w' ⟨M', r, σ', _, hI', hr, hq⟩ => ?_
  obtain ⟨rfl, _⟩ := hq
  cases e <;> simp only [Sx.RRes] at hr
  refine ⟨?_, ⟨hI'.os, hI'.tape, hI'.output, hI'.size, hI'.old⟩⟩
  cases hr with
  | tup _ cs hl h1 =>
    match cs, hl, h1 with
    | [a, b], _, h1 =>
      have ha := (h1 0 (by simp) (by simp)).of_v
      have hb := (h1 1 (by simp) (by simp)).of_v
      simp only [List.getElem_cons_zero, List.getElem_cons_succ] at ha hb
      subst ha hb; rfl
/-- A slice of rows, cell by cell. -/
theorem slice_rows {M : Mem} {nn : Bool} {esz : Nat} {rows : List (List AV)} {v : Value} (h : R M (.sl nn esz rows) v) :
    ∃ a cap, v = .slice a rows.length cap ∧ ∀ i (hi : i < rows.length), ∃ bb off, a = some ⟨bb, off, none⟩ ∧ ∃ cs : List Value, RL M rows[i] cs ∧ cs.length = esz ∧ ∀ j (hj : j < cs.length), M bb (off + i * esz + j) = some cs[j] := by
  cases h with
  | nil _ _ a _ => exact ⟨a, 0, rfl, fun i hi => absurd hi (by simp)⟩
  | sl _ _ _ b off cap cs hsz hM hR hc hm =>
    refine ⟨_, cap, rfl, fun i hi => ⟨b, off, rfl, (List.range esz).map fun j => cs (i * esz + j), ⟨by rw [hsz i hi]; simp, fun j h1 h2 => ?_⟩, by simp, fun j hj => ?_⟩⟩
    · simp only [List.getElem_map, List.getElem_range]; exact hR i hi j h1
    · simp only [List.getElem_map, List.getElem_range]
      have hj' : j < esz := by simpa using hj
      rw [Nat.add_assoc]
      refine hM _ ?_
      have := Nat.mul_le_mul_right esz (show i + 1 ≤ rows.length from hi)
      rw [Nat.add_mul, Nat.one_mul] at this
      omega
theorem is_sl {M : Mem} {nn : Bool} {esz : Nat} {rows : List (List AV)} {v : Value} (h : R M (.sl nn esz rows) v) : ∃ a n c, v = .slice a n c := by
  obtain ⟨a, c, h, _⟩ := slice_rows h; exact ⟨a, _, c, h⟩
theorem tab_vals {M : Mem} {t : Tab} {cs : List Value} (h : RL M t.cells cs) : ∃ a n c, cs = [.string t.name, .string t.entity, .slice a n c, .int .i64 t.keep] := by
  obtain ⟨v0, c0, rfl, h0, h⟩ := h.uncons
  obtain ⟨v1, c1, rfl, h1, h⟩ := h.uncons
  obtain ⟨v2, c2, rfl, h2, h⟩ := h.uncons
  obtain ⟨v3, c3, rfl, h3, h⟩ := h.uncons
  obtain rfl := h.unnil
  obtain ⟨a, n, c, rfl⟩ := is_sl h2
  exact ⟨a, n, c, by rw [h0.of_v, h1.of_v, h3.of_v]⟩
theorem table_at {t : Tab} {M : Mem} {W : World} {cs : List Value} (hI : Inv Tryz.prog M W [] W) (h : RL M t.cells cs) :
    Calls Tryz.prog 16 #[.agg cs.toArray] W fun e W' => e = .returned (.tuple #[.string (tableS t), .int .i64 (tabErr t)]) ∧ Below W.heap.size W W' :=
  call_at (tableT_ok t) hI (RL.cons (R.mk_agg h) RL.nil)
theorem isB_below {B b : Nat} {bs : List Value} {w w' : World} (h : IsB B b bs w) (hb : Below w.heap.size w w') : IsB B b bs w' := by
  have key : ∀ p, Lib.BuilderAtF 83 5 B b p bs w → Lib.BuilderAtF 83 5 B b p bs w' := by
    rintro p ⟨hB, v, h1, ⟨h2, h3⟩, h4⟩
    have up : ∀ {k : Nat} {o : Obj}, w.heap[k]? = some o → w'.heap[k]? = some o := fun {k o} h => by rw [hb.block k (Array.getElem?_eq_some_iff.1 h).1]; exact h
    refine ⟨hB, v, up h1, ⟨h2, ?_⟩, h4⟩
    rcases h3 with h3 | ⟨g, cap, cur, fz, a, b, c, d⟩
    · exact .inl h3
    · exact .inr ⟨g, cap, cur, fz, a, b, up c, d⟩
  exact h.imp (key _) (key _)
theorem cat_cells (l : List (Str × Int)) (x : Str × Int) : Lib.byteCells (itCat l).data.toList ++ Lib.strCells (x.1 ++ ⟨#[10]⟩) = Lib.byteCells (itCat (l ++ [x])).data.toList := by
  rw [itCat_snoc, app_assoc, str_app, Lib.byteCells_append]; rfl
theorem run_load_at {t : TypeId} {w : World} {b off : Nat} {cs : List Value} (ht : Sx.aggT Tryz.prog t = some (true, cs.length)) (hc : ∀ j (hj : j < cs.length), w.cell? ⟨b, off + j, none⟩ = some cs[j]) :
    (Instr.loadAt t (.pointer (some ⟨b, off, none⟩))).run Tryz.prog w = .ok (.agg cs.toArray) w := by
  obtain ⟨h1, h2⟩ := Sx.aggT_run ht w
  simp only [Instr.loadAt, Instr.sureAddr, loadVar, Sem.run_bind, Sem.run_pure, Result.andThen_ok, h1]
  simp only [if_true, Sem.run_bind, h2, Result.andThen_ok, Sx.run_loads b off cs.length cs rfl hc, Sem.run_pure]
theorem wpList_load_at {ops : Array Oper} {rest : List Oper} {o : Oper} {a : Act} {w : World} {Q : Exit → Act → World → Prop} (hgd : o.guard = none) (ty : TypeId) (x : Operand) (ho : o.op = .load ty x)
    (b off : Nat) (hx : a.eval x = .pointer (some ⟨b, off, none⟩)) (C : Array Value) (hc : ∀ j (hj : j < C.toList.length), w.cell? ⟨b, off + j, none⟩ = some C.toList[j]) (ht : Sx.aggT Tryz.prog ty = some (true, C.toList.length))
    (h : wpList Tryz.prog ops Q rest (a.put o.dst (.agg C)) w) : wpList Tryz.prog ops Q (o :: rest) a w :=
  wpList_plain hgd fun _ hK => by
    unfold Oper.wp execOp
    simp only [ho, hx, run_load_at ht hc, Sem.run_bind, Result.andThen_ok, Sem.run_pure, Array.toArray_toList]
    exact hK _ _ h
theorem below_row (w : World) (o : Obj) (C : Array Value) : Below w.heap.size w ((w.alloc o).setRow w.heap.size C) := by
  refine ⟨rfl, rfl, rfl, ?_, fun k hk => ?_⟩
  · show w.heap.size ≤ ((w.alloc o).setRow w.heap.size C).heap.size
    simp [World.setRow]
  · rw [setRow_other _ _ _ _ (by omega)]; exact heap_alloc_old _ _ hk
theorem feature_at {f : Fea} (hs : f.body.size ≤ 100) {M : Mem} {W : World} {C : Array Value} (hI : Inv Tryz.prog M W [] W) (h : RL M f.cells C.toList) :
    Calls Tryz.prog 18 #[.agg C] W fun e W' => e = .returned (.tuple #[.string (feaS f), .int .i64 (feaErr f)]) ∧ Below W.heap.size W W' :=
  call_at (feature_ok f hs) hI (cs := [.agg C]) (RL.cons (by have := R.mk_agg h; rwa [Array.toArray_toList] at this) RL.nil)
set_option maxHeartbeats 4000000 in
set_option maxRecDepth 1000000 in
theorem module_walk (m : Mdl) (hm : m.Small) (M : Mem) (w0 w : World) (σ : Sx.Store) (hI : Inv Tryz.prog M w0 σ w) (aT aF : Option Addr) (cT cF : Nat)
    (hT : ∀ i (hi : i < m.tables.length), ∃ bb off, aT = some ⟨bb, off, none⟩ ∧ ∃ cs : List Value, RL M (m.tables.getD i default).cells cs ∧ cs.length = 4 ∧ ∀ j (hj : j < cs.length), M bb (off + i * 4 + j) = some cs[j])
    (hF : ∀ i (hi : i < m.features.length), ∃ bb off, aF = some ⟨bb, off, none⟩ ∧ ∃ cs : List Value, RL M (m.features.getD i default).cells cs ∧ cs.length = 18 ∧ ∀ j (hj : j < cs.length), M bb (off + i * 18 + j) = some cs[j]) :
    Calls Tryz.prog 20 #[.agg #[.slice aT m.tables.length cT, .slice aF m.features.length cF]] w fun e w' => e = .returned (.tuple #[.string (modS m), .int .i64 (modErr m)]) ∧ Below w.heap.size w w' := by
  have hmt := hm.t
  have hmf := hm.f
  go_enter Tryz.func20, Tryz.ntmps20
  go_wp2
  go_loopw [16] (fun i wr => ∃ k : Nat, k ≤ m.tables.length ∧ i = .int .i64 k ∧ itErr ((itemsT m).take k) = 0 ∧ IsB (w.heap.size + 1) (w.heap.size + 1) (Lib.byteCells (itCat ((itemsT m).take k)).data.toList) wr ∧ wr.heap[w.heap.size]? = some (.cells #[.slice aT m.tables.length cT, .slice aF m.features.length cF] 45 (0, 0)) ∧ Below w.heap.size w wr ∧ w.heap.size + 2 ≤ wr.heap.size) (fun i _ => m.tables.length - (intOf i).toNat)
  case atStart =>
    refine ⟨0, Nat.zero_le _, rfl, rfl, ?_, ?_, ?_, ?_⟩
    · have h := Lib.fresh_isBuilder 83 5 (w.alloc (.cells #[.slice aT m.tables.length cT, .slice aF m.features.length cF] 45))
      rw [show (w.alloc (.cells #[.slice aT m.tables.length cT, .slice aF m.features.length cF] 45)).heap.size = w.heap.size + 1 by simp] at h
      exact Lib.IsBuilderF.of h
    · rw [heap_alloc_old _ _ (by simp)]; exact heap_alloc_new _ _
    · exact ((Below.refl _ w).alloc (Nat.le_refl _) _).alloc (by simp) _
    · simp
  case round =>
    obtain ⟨k, hk, rfl, hp, hB, hbox, hbl, hsz⟩ := hrel
    by_cases hk' : k < m.tables.length
    · obtain ⟨bb, off, rfl, cs, hcs, hl, hc⟩ := hT k hk'
      have tk := take_map (fun t => (tableS t, tabErr t)) (l := m.tables) hk'
      obtain ⟨t, ht⟩ : ∃ t, t = m.tables.getD k default := ⟨_, rfl⟩
      rw [← ht] at hcs tk
      clear ht
      obtain ⟨a2, n2, c2, rfl⟩ := tab_vals hcs
      have hcell : ∀ j (hj : j < 4), wr.cell? ⟨bb, off + k * 4 + j, none⟩ = some ([.string t.name, .string t.entity, .slice a2 n2 c2, .int .i64 t.keep][j]'hj) := fun j hj => (hI.after hbl).imm _ _ _ (hc j hj)
      have e0 := hcell 0 (by decide)
      have e1 := hcell 1 (by decide)
      have e2 := hcell 2 (by decide)
      have e3 := hcell 3 (by decide)
      clear hcell hc
      simp only [List.getElem_cons_zero, List.getElem_cons_succ, Nat.add_zero] at e0 e1 e2 e3
      go_wp2_with (go_at_call 16; refine (table_at (inv_at hI ?bw) hcs).mono ?_)
      case bw => exact hbl.alloc (Nat.le_of_lt (by omega)) _
      rintro e W1 ⟨rfl, hW⟩
      have hb0 : Below wr.heap.size wr W1 := ((Below.refl _ wr).alloc (Nat.le_refl _) _).trans (below_less hW (by simp))
      have hB1 := isB_below hB hb0
      have hbox1 : W1.heap[w.heap.size]? = _ := (hb0.block _ (by omega)).trans hbox
      have hbl1 : Below w.heap.size w W1 := hbl.trans (below_less hb0 (by omega))
      have hsz1 : w.heap.size + 2 ≤ W1.heap.size := Nat.le_trans hsz hb0.size
      clear hb0 hW hB hbox hbl hsz e0 e1 e2 e3 hcs hl
      have hz1 := tableS_size t
      by_cases het : tabErr t = 0
      · go_wp2_with (go_at_call 49; refine (writeString_b _ _ _ _ _ hB1 ?len ?bw2).mono ?_)
        case len => rw [Lib.byteCells_length, app_size]; have h2 := itT_size m k hmt; rw [str_size] at h2; have h3 : (⟨#[10]⟩ : Str).size = 1 := rfl; omega
        case bw2 => omega
        rintro e W2 ⟨rfl, hB2, hb2⟩
        go_wp2
        go_roundw
        case rel =>
          refine ⟨k + 1, by omega, by go_num, itErr_step hp tk het, ?_, (hb2.block _ (by omega)).trans hbox1, hbl1.trans (below_less hb2 (by omega)), Nat.le_trans hsz1 hb2.size⟩
          rw [show (itemsT m).take (k + 1) = _ from tk, ← cat_cells]; exact hB2
        case measure => simp [intOf]; omega
      · go_wp2
        go_ret2
        exact ⟨by rw [modErr_T hp tk het, modS_T hp tk het]; rfl, hbl1⟩
    · have hTk : itErr (itemsT m) = 0 := by rwa [List.take_of_length_le (by rw [itemsT, List.length_map]; omega)] at hp
      rw [List.take_of_length_le (l := itemsT m) (by rw [itemsT, List.length_map]; omega)] at hB
      have hzT := itT_size m (itemsT m).length hmt
      rw [List.take_length] at hzT
      have c1 : wr.cell? ⟨w.heap.size, 1, none⟩ = some (.slice aF m.features.length cF) := by rw [Lib.cell_of_heap hbox]; rfl
      clear hbox hp
      go_wp2
      go_loopw [35] (fun i wr => ∃ k : Nat, k ≤ m.features.length ∧ i = .int .i64 k ∧ itErr ((itemsF m).take k) = 0 ∧ IsB (w.heap.size + 1) (w.heap.size + 1) (Lib.byteCells (itCat (itemsT m ++ (itemsF m).take k)).data.toList) wr ∧ Below w.heap.size w wr ∧ w.heap.size + 2 ≤ wr.heap.size) (fun i _ => m.features.length - (intOf i).toNat)
      case atStart => exact ⟨0, Nat.zero_le _, rfl, rfl, by rw [List.take_zero, List.append_nil]; exact hB, hbl, hsz⟩
      case round =>
        obtain ⟨k, hk, rfl, hp, hB, hbl, hsz⟩ := hrel
        by_cases hk' : k < m.features.length
        · obtain ⟨bb, off, rfl, cs, hcs, hl, hc⟩ := hF k hk'
          have tk := take_map (fun f => (feaS f, feaErr f)) (l := m.features) hk'
          have hsf := hm.b _ (Sx.getD_mem hk')
          obtain ⟨f, hf⟩ : ∃ f, f = m.features.getD k default := ⟨_, rfl⟩
          rw [← hf] at hcs tk hsf
          clear hf
          obtain ⟨C, rfl⟩ : ∃ C : Array Value, cs = C.toList := ⟨cs.toArray, by simp⟩
          have hcell : ∀ j (hj : j < C.toList.length), wr.cell? ⟨bb, off + k * 18 + j, none⟩ = some C.toList[j] := fun j hj => (hI.after hbl).imm _ _ _ (hc j hj)
          have hag : Sx.aggT Tryz.prog 53 = some (true, C.toList.length) := by rw [hl]; kernel_rfl
          have h18 : C.size = 18 := by rw [← hl, Array.length_toList]
          have hsz18 : (Tryz.prog.info? 53).map (·.size) = some C.size := by rw [h18]; kernel_rfl
          have hone : C.all (·.oneCell') = true := by rw [← Array.all_toList]; exact hcs.all_one rfl
          go_wp2_with (first
            | (show wpList _ _ _ (⟨some 38, _, _, _, _, _⟩ :: _) _ _; refine wpList_load_at rfl 53 (.tmp 37) rfl bb (off + k * 18) rfl C hcell hag ?_)
            | (show wpList _ _ _ (⟨none, .store _ _ _, _, _, _, _⟩ :: _) _ _; refine wpList_store_row rfl 53 (.tmp 10) (.tmp 38) rfl wr.heap.size C rfl rfl 53 _ (heap_alloc_new _ _) hsz18 h18.symm hone ?_)
            | (show wpList _ _ _ (⟨some 40, _, _, _, _, _⟩ :: _) _ _; refine wpList_load_row rfl 53 (.tmp 10) rfl wr.heap.size rfl 53 C (0, 0) _ (setRow_heap _ _ _ _ _ _ (heap_alloc_new _ _)) Tryz.underlying53 rfl hsz18 ?_)
            | (go_at_call 18; refine (feature_at hsf (inv_at hI ?bw) hcs).mono ?_))
          case bw => exact hbl.trans (below_less (below_row _ _ _) (by omega))
          rintro e W1 ⟨rfl, hW⟩
          have hb0 : Below wr.heap.size wr W1 := (below_row wr _ C).trans (below_less hW (below_row wr _ C).size)
          have hB1 := isB_below hB hb0
          have hbl1 : Below w.heap.size w W1 := hbl.trans (below_less hb0 (by omega))
          have hsz1 : w.heap.size + 2 ≤ W1.heap.size := Nat.le_trans hsz hb0.size
          clear hb0 hW hB hbl hsz hcs hl hcell hag h18 hsz18 hone hc
          have hz1 := feaS_size hsf
          by_cases het : feaErr f = 0
          · go_wp2_with (go_at_call 49; refine (writeString_b _ _ _ _ _ hB1 ?len ?bw2).mono ?_)
            case len => rw [Lib.byteCells_length, app_size, itCat_app, str_app, List.length_append]; have h2 := itF_size m k hmf hm.b; rw [str_size] at h2 hzT; have h3 : (⟨#[10]⟩ : Str).size = 1 := rfl; omega
            case bw2 => omega
            rintro e W2 ⟨rfl, hB2, hb2⟩
            go_wp2
            go_roundw
            case rel =>
              refine ⟨k + 1, by omega, by go_num, itErr_step hp tk het, ?_, hbl1.trans (below_less hb2 (by omega)), Nat.le_trans hsz1 hb2.size⟩
              rw [show (itemsF m).take (k + 1) = _ from tk, ← List.append_assoc, ← cat_cells]; exact hB2
            case measure => simp [intOf]; omega
          · go_wp2
            go_ret2
            exact ⟨by rw [modErr_F hTk hp tk het, modS_F hTk hp tk het]; rfl, hbl1⟩
        · have hFk : itErr (itemsF m) = 0 := by rwa [List.take_of_length_le (by rw [itemsF, List.length_map]; omega)] at hp
          have hzF := itF_size m (itemsF m).length hmf hm.b
          rw [List.take_length] at hzF
          rw [List.take_of_length_le (l := itemsF m) (by rw [itemsF, List.length_map]; omega)] at hB
          have hE := modErr_E hTk hFk
          obtain ⟨S, hS⟩ : ∃ S, S = itCat (itemsT m ++ itemsF m) := ⟨_, rfl⟩
          have hM : modErr m = 0 → modS m = S := fun h => (if_pos h).trans hS.symm
          rw [← hS] at hB hE
          clear hS
          have hlen : (Lib.byteCells S.data.toList).length = S.size := Lib.byteCells_length _
          go_wp2_with (go_at_call 50; refine (Tryz.Builder_Len_f _ _ _ _ hB).mono ?_)
          rintro e W1 ⟨rfl, rfl⟩
          rw [hlen]
          by_cases hbig : 16384 < S.size
          · go_wp2
            go_ret2
            rw [if_pos hbig] at hE
            exact ⟨by rw [hE, show modS m = ⟨#[]⟩ from if_neg (by rw [hE]; decide)]; rfl, hbl⟩
          · go_wp2_with (go_at_call 51; refine (Tryz.Builder_String_any_f _ _ _ _ hB (by omega)).mono ?_)
            rintro e W2 ⟨rfl, _, hb2⟩
            go_wp2
            go_ret2
            rw [if_neg hbig] at hE
            exact ⟨by rw [hM hE, hE]; rfl, hbl.trans (below_less hb2 (by omega))⟩
end Go.Proofs.YtklncofkcfjkeaaGreatDoor
