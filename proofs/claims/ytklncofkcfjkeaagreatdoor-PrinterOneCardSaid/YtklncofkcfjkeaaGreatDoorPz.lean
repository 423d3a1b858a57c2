
/- What is printed is read back: different expressions have different texts. -/
import Derived.Test.YtklncofkcfjkeaaGreatDoorPy
set_option linter.unusedSimpArgs false
set_option linter.unusedVariables false
set_option maxRecDepth 100000
namespace Go.Proofs.YtklncofkcfjkeaaGreatDoor
open Go.Sx Go.Proofs
theorem eat_cons (c d : UInt8) (p s : Bs) : eat (c :: p) (d :: s) = if c = d then eat p s else none := by
  unfold eat
  by_cases h : c = d
  · subst h; simp [List.isPrefixOf]
  · rw [if_neg h, if_neg]; simp [List.isPrefixOf, h]
theorem eat_nil (s : Bs) : eat [] s = some s := by unfold eat; simp
theorem eat_end (c : UInt8) (p : Bs) : eat (c :: p) [] = none := by unfold eat; simp [List.isPrefixOf]
section
variable {r q k : Int} {ins : Bool} {i s t w : Bs} {x y : Ex} {o : Str} {c : UInt8}
theorem pE_of (h : pP ins i = some (x, s)) : pE r ins i = pL r ins x s := by rw [pE, h]; rfl
theorem pL_stop (h : oprR s < r ∨ oprR s = 0) : pL r ins x s = some (x, s) := by
  rw [pL]
  unfold oprR at h
  split
  · rename_i h1
    rw [h1] at h
    have := opOf_rank h1
    simp only at h
    rw [if_neg (by omega)]
  · rfl
theorem pL_op (h : opOf i = some (k, o, q, s)) (hr : r ≤ q) (hy : pE (q + 1) ins s = some (y, t)) : pL r ins x i = pL r ins (ex0 k o [x, y]) t := by
  rw [pL, h]
  simp only
  rw [if_pos hr, hy]; rfl
theorem pP_par (h : pE 0 ins t = some (x, 41 :: s)) : pP ins (40 :: t) = some (x, s) := by
  rw [pP]; simp only
  rw [if_pos trivial, h]; rfl
theorem pP_neg (h : pE 8 ins t = some (x, s)) : pP ins (45 :: t) = some (ex0 6 ⟨#[45]⟩ [x], s) := by
  rw [pP]; simp only
  rw [if_neg (by decide), if_pos trivial, h]; rfl
theorem pP_txt : pP ins (34 :: t) = some (pText t) := by
  rw [pP]; simp only
  rw [if_neg (by decide), if_neg (by decide), if_pos trivial]
theorem pP_key : pP ins (64 :: t) = some (pKey t) := by
  rw [pP]; simp only
  rw [if_neg (by decide), if_neg (by decide), if_neg (by decide), if_pos trivial]
theorem ne_of {a b : UInt8} (h : a.toNat ≠ b.toNat) : ¬ a = b := fun e => h (by rw [e])
theorem pP_num (h : Dig c.toNat) : pP ins (c :: t) = some (pNum (c :: t)) := by
  have h' := h
  unfold Dig at h'
  rw [pP]; try simp only
  rw [if_neg (ne_of (by show _ ≠ 40; omega)), if_neg (ne_of (by show _ ≠ 45; omega)), if_neg (ne_of (by show _ ≠ 34; omega)), if_neg (ne_of (by show _ ≠ 64; omega)), if_pos h]
theorem pP_word (hw : ∀ c ∈ w, isW c = true) (hh : ∃ c l, w = c :: l ∧ Low c.toNat) (hs : Stop s) : pP ins (w ++ s) = pW ins w s := by
  have e := wspan_app hs hw
  obtain ⟨c, l, rfl, hl⟩ := hh
  rw [List.cons_append] at e ⊢
  unfold Low at hl
  rw [pP]; try simp only
  rw [if_neg (ne_of (by show _ ≠ 40; omega)), if_neg (ne_of (by show _ ≠ 45; omega)), if_neg (ne_of (by show _ ≠ 34; omega)), if_neg (ne_of (by show _ ≠ 64; omega)), if_neg (by unfold Dig; omega), e]
end
/-- What may follow an expression. -/
def good (s : Bs) : Bool := (match s with | [] => true | c :: _ => !isW c && c != 46 && c != 40) && (eat [32, 91] s).isNone && (eat [32, 111, 102, 32, 40] s).isNone
structure Good (s : Bs) : Prop where
  stop : Stop s
  dot : eat [46] s = none
  par : eat [40] s = none
  unit : eat [32, 91] s = none
  of : eat [32, 111, 102, 32, 40] s = none
theorem Good.of' {s : Bs} (h : good s = true) : Good s := by
  unfold good at h
  simp only [Bool.and_eq_true, Option.isNone_iff_eq_none] at h
  obtain ⟨⟨h1, h2⟩, h3⟩ := h
  cases s with
  | nil => exact ⟨stop_nil, eat_end _ _, eat_end _ _, h2, h3⟩
  | cons c s =>
    simp only [Bool.and_eq_true, Bool.not_eq_true', bne_iff_ne, ne_eq] at h1
    exact ⟨stop_cons h1.1.1, by rw [eat_cons, if_neg (fun e => h1.1.2 e.symm)], by rw [eat_cons, if_neg (fun e => h1.2 e.symm)], h2, h3⟩

/-- Literals. -/
theorem ty0 {t : Ty} (h : tyErr t = 0) : (1 ≤ t.kind ∧ t.kind ≤ 5) ∧ (t.unit ≠ [] → Num t) ∧ (t.kind = 5 → Name t.of) ∧ (t.kind ≠ 5 → t.of = ⟨#[]⟩) ∧ ∀ f ∈ t.unit, Name f.name := by
  unfold tyErr at h
  split at h
  · omega
  · split at h
    · omega
    · refine ⟨by omega, by grind, by grind, by grind, by grind⟩
theorem val0 {v : Val} (h : valErr v = 0) : fieldsOK v ∧ (v.kind = 4 → Prt v.s 32) ∧ (v.kind = 5 → Prt v.s 33) := by
  unfold valErr at h
  split at h
  · omega
  · split at h
    · omega
    · split at h
      · omega
      · exact ⟨by grind, by grind, by grind⟩
theorem prt_quote {s : Str} {low : Nat} (h : Prt s low) : (34 : UInt8) ∉ s.data.toList := fun hm => by
  obtain ⟨i, hi, he⟩ := List.mem_iff_getElem.1 hm
  have := (h i hi).2.2.1
  unfold byteAt at this
  rw [List.getD_eq_getElem?_getD, List.getElem?_eq_getElem hi, he] at this
  exact this rfl
theorem st_eq (s : Str) : st s.data.toList = s := str_ext (by simp [st])
theorem intS_list (n : Int) : (intS n).data.toList = Lib.decDigits n.toNat := by simp [intS]
theorem decS_list (n : Nat) : (decS n).data.toList = Lib.decDigits (n / 10 ^ 6) ++ 46 :: lowD 6 n := by simp [decS]
theorem unitT_list {u : List Fac} (h : u ≠ []) : (unitT u).data.toList = 32 :: 91 :: (unitL u ++ [93]) := by
  unfold unitT
  rw [if_neg h, str_app, str_app, unitL_eq]; rfl
theorem pUnit_eq {u : List Fac} {s : Bs} (hu : ∀ f ∈ u, Name f.name) (hg : Good s) : pUnit ((unitT u).data.toList ++ s) = (u, s) := by
  unfold pUnit
  by_cases h : u = []
  · subst h
    rw [show (unitT []).data.toList ++ s = s from rfl, hg.unit]
  · have hU : UOK u := ⟨h, fun f hf => (hu f hf).1⟩
    rw [unitT_list h, show (32 :: 91 :: (unitL u ++ [93])) ++ s = [32, 91] ++ (unitL u ++ 93 :: s) by simp, eat_app]
    simp only
    rw [upto_app (unit_chars hU.2), unitD_eq hU]
theorem unit_stop {u : List Fac} {s : Bs} (hg : Good s) : Stop ((unitT u).data.toList ++ s) ∧ eat [46] ((unitT u).data.toList ++ s) = none := by
  by_cases h : u = []
  · subst h; exact ⟨hg.stop, hg.dot⟩
  · rw [unitT_list h]
    exact ⟨stop_cons (by decide), by rw [List.cons_append, eat_cons, if_neg (by decide)]⟩
theorem lit_eta {x : Ex} (hk : x.kind = 1) (hF : x.Flat (litEx x)) (ha : x.args = []) : x = exL x.name x.val x.unit := by
  cases x
  obtain ⟨h1, h2, h3, h4, h5, h6, h7, h8⟩ := hF
  simp only [Ex.kind, Ex.op, Ex.name, Ex.table, Ex.val, Ex.unit, Ex.param, Ex.win, Ex.args, litEx] at *
  subst hk h2 h4 h7 h8 ha
  rfl
theorem lit_read {x : Ex} (hk : x.kind = 1) (h : litOK x) (ha : x.args = []) {ins : Bool} {s : Bs} (hg : Good s) : pP ins ((litT x).data.toList ++ s) = some (x, s) := by
  obtain ⟨h1, h2, h3, h4⟩ := h
  obtain ⟨hf, hp4, hp5⟩ := val0 h1
  obtain ⟨t1, t2, t3, t4, t5⟩ := ty0 h3
  simp only at t1 t2 t3 t4 t5
  rw [lit_eta hk h4 ha]
  generalize x.name = nm at *
  generalize x.unit = u at *
  generalize x.val = v at *
  obtain ⟨k, n, sv0⟩ := v
  obtain ⟨_, _, f3, _, f5, f6⟩ := hf
  simp only at *
  have hS := unit_stop (u := u) hg
  have hU := pUnit_eq t5 hg
  show pP ins ((if k = 5 then _ else _ : Str).data.toList ++ s) = _
  simp only [exL, Ex.name, Ex.val, Ex.unit]
  by_cases k5 : k = 5
  · subst k5
    have hN := t3 rfl
    have hu : u = [] := Decidable.not_not.1 fun h => by have := t2 h; unfold Num at this; simp at this
    have hn : n = 0 := f6 (by omega)
    subst hu hn
    rw [if_pos rfl]
    simp only [str_app, List.append_assoc]
    show pP ins (64 :: (nm.data.toList ++ (32 :: 34 :: (sv0.data.toList ++ (34 :: s))))) = _
    rw [pP_key]
    unfold pKey
    have e := wspan_app (s := 32 :: 34 :: (sv0.data.toList ++ (34 :: s))) (stop_cons (by decide)) (word_w hN.1)
    have e2 := upto_app (s := s) (prt_quote (hp5 rfl))
    simp only [e, List.drop_succ_cons, List.drop_zero, e2, st_eq]
    rfl
  have hnm : nm = ⟨#[]⟩ := t4 k5
  subst hnm
  rw [if_neg k5, str_app, List.append_assoc]
  by_cases k4 : k = 4
  · subst k4
    have hu : u = [] := Decidable.not_not.1 fun h => by have := t2 h; unfold Num at this; simp at this
    have hn : n = 0 := f6 (by omega)
    subst hu hn
    show pP ins (((⟨#[34]⟩ : Str) ++ (sv0 ++ ⟨#[34]⟩)).data.toList ++ s) = _
    simp only [str_app, List.append_assoc]
    show pP ins (34 :: (sv0.data.toList ++ (34 :: s))) = _
    rw [pP_txt]
    unfold pText
    simp only [upto_app (s := s) (prt_quote (hp4 rfl)), st_eq]
    rfl
  have hs : sv0 = ⟨#[]⟩ := f3 (by omega)
  subst hs
  by_cases k3 : k = 3
  · subst k3
    show pP ins ((decS n.toNat).data.toList ++ _) = _
    rw [decS_list, List.append_assoc, List.cons_append]
    obtain ⟨c, l, hc, hd⟩ := dd_ne (n.toNat / 10 ^ 6)
    have e1 := wspan_app (s := 46 :: (lowD 6 n.toNat ++ ((unitT u).data.toList ++ s))) (stop_cons (by decide)) (fun c hc => dig_w (dd_dig (n.toNat / 10 ^ 6) c hc))
    have e2 := wspan_app hS.1 (fun c hc => dig_w (low_dig 6 n.toNat c hc))
    have e3 : pP ins (Lib.decDigits (n.toNat / 10 ^ 6) ++ 46 :: (lowD 6 n.toNat ++ ((unitT u).data.toList ++ s))) = some (pNum (Lib.decDigits (n.toNat / 10 ^ 6) ++ 46 :: (lowD 6 n.toNat ++ ((unitT u).data.toList ++ s)))) := by
      rw [hc, List.cons_append]; exact pP_num hd
    rw [e3]
    unfold pNum
    simp only [e1, eat_cons, if_true, eat_nil, e2, hU, num_dec]
    rw [show ((n.toNat : Nat) : Int) = n by omega]
    rfl
  by_cases k2 : k = 2
  · subst k2
    show pP ins ((intS n).data.toList ++ _) = _
    rw [intS_list]
    obtain ⟨c, l, hc, hd⟩ := dd_ne n.toNat
    have e1 := wspan_app hS.1 (fun c hc => dig_w (dd_dig n.toNat c hc))
    have e3 : pP ins (Lib.decDigits n.toNat ++ ((unitT u).data.toList ++ s)) = some (pNum (Lib.decDigits n.toNat ++ ((unitT u).data.toList ++ s))) := by
      rw [hc, List.cons_append]; exact pP_num hd
    rw [e3]
    unfold pNum
    simp only [e1, hS.2, hU, num_dd]
    rw [show ((n.toNat : Nat) : Int) = n by omega]
    rfl
  · have k1 : k = 1 := by omega
    subst k1
    have hu : u = [] := Decidable.not_not.1 fun h => by have := t2 h; unfold Num at this; simp at this
    subst hu
    rw [show (unitT []).data.toList ++ s = s from rfl]
    rcases f5 rfl with rfl | rfl
    · show pP ins ([102, 97, 108, 115, 101] ++ s) = _
      rw [pP_word (by decide) ⟨_, _, rfl, by decide⟩ hg.stop, pW, if_neg (by decide), if_neg (by decide), if_neg (by decide), if_pos rfl]
      rfl
    · show pP ins ([116, 114, 117, 101] ++ s) = _
      rw [pP_word (by decide) ⟨_, _, rfl, by decide⟩ hg.stop, pW, if_neg (by decide), if_neg (by decide), if_pos rfl]
      rfl
/-- What an expression of a kind is made of. -/
theorem nam_eta {x : Ex} (h : x.Flat (namEx x)) : x = exN x.kind x.name x.args := by
  cases x
  obtain ⟨h1, h2, h3, h4, h5, h6, h7, h8⟩ := h
  simp only [Ex.kind, Ex.op, Ex.name, Ex.table, Ex.val, Ex.unit, Ex.param, Ex.win, Ex.args, namEx, exN] at *
  subst h2 h4 h5 h6 h7 h8
  rfl
theorem op_eta {x : Ex} (h : x.Flat (opEx x)) : x = ex0 x.kind x.op x.args := by
  cases x
  obtain ⟨h1, h2, h3, h4, h5, h6, h7, h8⟩ := h
  simp only [Ex.kind, Ex.op, Ex.name, Ex.table, Ex.val, Ex.unit, Ex.param, Ex.win, Ex.args, opEx, ex0] at *
  subst h3 h4 h5 h6 h7 h8
  rfl
theorem agg_eta {x : Ex} (hk : x.kind = 5) (h : x.Flat (aggEx x)) : x = ⟨5, x.op, ⟨#[]⟩, x.table, ⟨0, 0, ⟨#[]⟩⟩, [], x.param, x.win, x.args⟩ := by
  cases x
  obtain ⟨h1, h2, h3, h4, h5, h6, h7, h8⟩ := h
  simp only [Ex.kind, Ex.op, Ex.name, Ex.table, Ex.val, Ex.unit, Ex.param, Ex.win, Ex.args, aggEx] at *
  subst hk h3 h5 h6
  rfl
theorem name_kw {n : Str} (h : Name n) {k : Bs} (hk : k ∈ kwB) : ¬ n.data.toList = k := fun e => h.2 (by unfold KW; rw [e]; exact hk)
section
variable {r : Int} {ins : Bool} {i s t : Bs} {x y : Ex} {n : Str}
theorem e41 : eat [41] (41 :: t) = some t := rfl
theorem pW_nm (h : Name n) (h1 : eat [40] s = none) (h2 : eat [32, 111, 102, 32, 40] s = none) : pW ins n.data.toList s = some (exN (if ins = true then 2 else 3) n [], s) := by
  rw [pW, if_neg (name_kw h (by decide)), if_neg (name_kw h (by decide)), if_neg (name_kw h (by decide)), if_neg (name_kw h (by decide)), if_neg (name_kw h (by decide)), h1]
  simp only
  rw [h2]
  simp only [st_eq]
theorem pW_of (h : Name n) (hx : pE 0 ins s = some (x, 41 :: t)) : pW ins n.data.toList (32 :: 111 :: 102 :: 32 :: 40 :: s) = some (exN 4 n [x], t) := by
  rw [pW, if_neg (name_kw h (by decide)), if_neg (name_kw h (by decide)), if_neg (name_kw h (by decide)), if_neg (name_kw h (by decide)), if_neg (name_kw h (by decide)), show eat [40] (32 :: 111 :: 102 :: 32 :: 40 :: s) = none from rfl]
  simp only
  rw [show eat [32, 111, 102, 32, 40] (32 :: 111 :: 102 :: 32 :: 40 :: s) = some s from rfl]
  simp only [hx, e41, Option.bind_eq_bind, Option.bind_some, st_eq]
end
theorem name_word {n : Str} (h : Name n) (ins : Bool) {s : Bs} (hs : Stop s) : pP ins (n.data.toList ++ s) = pW ins n.data.toList s := pP_word (word_w h.1) (word_head h.1) hs
theorem par_list (a : Str) (s : Bs) : (par a).data.toList ++ s = 40 :: (a.data.toList ++ (41 :: s)) := by
  unfold par
  simp only [str_app, List.append_assoc]; rfl
theorem win_read {w : Win} (h : winOK w) {s : Bs} (hs : Stop s) : pWin ((winT w).data.toList ++ s) = (w, s) := by
  obtain ⟨k, z⟩ := w
  unfold winOK at h
  simp only at h
  have hz : ∀ p : Bs, (∀ c ∈ p, isW c = true) → wspan (p ++ (32 :: (Lib.decDigits z.toNat ++ s))) = (p, 32 :: (Lib.decDigits z.toNat ++ s)) := fun p hp => wspan_app (stop_cons (by decide)) hp
  have e2 := wspan_app hs (fun c hc => dig_w (dd_dig z.toNat c hc))
  have e3 : k ≠ 1 → ((z.toNat : Nat) : Int) = z := fun _ => by omega
  unfold winT
  simp only
  by_cases k2 : k = 2
  · subst k2
    rw [if_pos rfl, str_app, intS_list, List.append_assoc]
    show pWin ([115, 108, 105, 100, 105, 110, 103] ++ (32 :: (Lib.decDigits z.toNat ++ s))) = _
    unfold pWin
    simp only [hz [115, 108, 105, 100, 105, 110, 103] (by decide), List.drop_succ_cons, List.drop_zero, e2, num_dd, e3 (by decide)]
    rfl
  rw [if_neg k2]
  by_cases k3 : k = 3
  · subst k3
    rw [if_pos rfl, str_app, intS_list, List.append_assoc]
    show pWin ([116, 117, 109, 98, 108, 105, 110, 103] ++ (32 :: (Lib.decDigits z.toNat ++ s))) = _
    unfold pWin
    simp only [hz [116, 117, 109, 98, 108, 105, 110, 103] (by decide), List.drop_succ_cons, List.drop_zero, e2, num_dd, e3 (by decide)]
    rfl
  rw [if_neg k3]
  by_cases k4 : k = 4
  · subst k4
    rw [if_pos rfl, str_app, intS_list, List.append_assoc]
    show pWin ([115, 101, 115, 115, 105, 111, 110] ++ (32 :: (Lib.decDigits z.toNat ++ s))) = _
    unfold pWin
    simp only [hz [115, 101, 115, 115, 105, 111, 110] (by decide), List.drop_succ_cons, List.drop_zero, e2, num_dd, e3 (by decide)]
    rfl
  · rw [if_neg k4]
    obtain ⟨rfl, rfl⟩ : k = 1 ∧ z = 0 := by omega
    show pWin ([97, 108, 108] ++ s) = _
    unfold pWin
    simp only [wspan_app hs (w := [97, 108, 108]) (by decide), if_true]
theorem opOf_bin : ∀ y ∈ binL, ∀ t : Bs, opOf (32 :: (y.data.toList ++ (32 :: t))) = some (7, y, rank (ex0 7 y []), t) ∧ good (32 :: (y.data.toList ++ (32 :: t))) = true := by
  intro y hy t
  simp only [binL, List.mem_cons, List.not_mem_nil, or_false] at hy
  rcases hy with rfl | rfl | rfl | rfl | rfl | rfl | rfl | rfl | rfl | rfl <;> exact ⟨rfl, rfl⟩
theorem oprR_of {i : Bs} {k q : Int} {o : Str} {s : Bs} (h : opOf i = some (k, o, q, s)) : oprR i = q := by unfold oprR; rw [h]
theorem oprR_nn (s : Bs) : 0 ≤ oprR s ∧ oprR s ≤ 7 ∧ oprR s ≠ 4 := by rcases oprR_cases s with ⟨h, _⟩ | h | h | h | h | h | h <;> omega
def TL (x : Ex) : Bs := (text x).data.toList
theorem agg_words : ∀ y ∈ aggL, (∀ c ∈ y.data.toList, isW c = true) ∧ (∃ c l, y.data.toList = c :: l ∧ Low c.toNat) ∧ ¬ y.data.toList = [105, 102] ∧ ¬ y.data.toList = [110, 111, 116] ∧ ¬ y.data.toList = [116, 114, 117, 101] ∧ ¬ y.data.toList = [102, 97, 108, 115, 101] ∧ ¬ y.data.toList = [110, 117, 108, 108] := by
  intro y hy
  simp only [aggL, List.mem_cons, List.not_mem_nil, or_false] at hy
  rcases hy with rfl | rfl | rfl | rfl | rfl | rfl | rfl | rfl | rfl | rfl <;> exact ⟨by decide, ⟨_, _, rfl, by decide⟩, by decide, by decide, by decide, by decide, by decide⟩
theorem list_str {a b : Str} (h : a.data.toList = b.data.toList) : a = b := str_ext h
theorem par_read {x : Ex} (hp : parOK x) {s : Bs} (hs : Stop s) : pPar x.op.data.toList ((if x.param = 0 then (⟨#[]⟩ : Str) else ⟨#[44, 32]⟩ ++ intS x.param).data.toList ++ s) = (x.param, s) := by
  unfold pPar
  unfold parOK at hp
  have e2 := wspan_app hs (fun c hc => dig_w (dd_dig x.param.toNat c hc))
  have go : 1 ≤ x.param → (((num (wspan (((if x.param = 0 then (⟨#[]⟩ : Str) else ⟨#[44, 32]⟩ ++ intS x.param).data.toList ++ s).drop 2)).1 : Nat) : Int), (wspan (((if x.param = 0 then (⟨#[]⟩ : Str) else ⟨#[44, 32]⟩ ++ intS x.param).data.toList ++ s).drop 2)).2) = (x.param, s) := fun h => by
    rw [if_neg (by omega), str_app, intS_list]
    show (((num (wspan (Lib.decDigits x.param.toNat ++ s)).1 : Nat) : Int), (wspan (Lib.decDigits x.param.toNat ++ s)).2) = _
    rw [e2]
    simp only [num_dd]
    rw [show ((x.param.toNat : Nat) : Int) = x.param by omega]
  split
  · rename_i h
    refine go ?_
    split at hp
    · omega
    · split at hp
      · omega
      · rename_i h1 h2
        rcases h with h | h
        · exact absurd (list_str (b := ⟨#[113, 117, 97, 110, 116, 105, 108, 101]⟩) h) h1
        · exact absurd (list_str (b := ⟨#[100, 101, 99, 97, 121]⟩) h) h2
  · rename_i h
    split at hp
    · rename_i h1; exact absurd (.inl (by rw [h1])) h
    · split at hp
      · rename_i h2; exact absurd (.inr (by rw [h2])) h
      · rw [hp, if_pos rfl]; rfl
theorem len2 {l : List Ex} (h : l.length = 2) : ∃ a b, l = [a, b] := by
  match l, h with
  | [a, b], _ => exact ⟨a, b, rfl⟩
theorem len3 {l : List Ex} (h : l.length = 3) : ∃ a b c, l = [a, b, c] := by
  match l, h with
  | [a, b, c], _ => exact ⟨a, b, c, rfl⟩
theorem rank_ko {x y : Ex} (h : x.kind = y.kind) (h' : x.op = y.op) : rank x = rank y := by unfold rank; rw [h, h']
theorem tx0 {x a : Ex} {l : List Ex} (h : x.args = a :: l) : tx x 0 = text a := by rw [tx_at (by rw [h]; simp), h]; rfl
theorem tx1 {x a b : Ex} {l : List Ex} (h : x.args = a :: b :: l) : tx x 1 = text b := by rw [tx_at (by rw [h]; simp), h]; rfl
theorem tx2 {x a b c : Ex} {l : List Ex} (h : x.args = a :: b :: c :: l) : tx x 2 = text c := by rw [tx_at (by rw [h]; simp), h]; rfl
theorem parse_text (x : Ex) : ∀ (ins : Bool) (r : Int) (s : Bs), form ins x = true → r ≤ rank x → good s = true → oprR s ≤ rank x → pE r ins (TL x ++ s) = pL r ins x s := by
  induction x using Ex.ind with
  | h x ih =>
  intro ins r s hf hr hg ho
  have h := FOK.of hf
  have G := Good.of' hg
  have nn := oprR_nn s
  have hA : ∀ a ∈ x.args, ∀ (r : Int) (s : Bs), r ≤ rank a → good s = true → oprR s ≤ rank a → pE r (ins || decide (x.kind = 5)) (TL a ++ s) = pL r (ins || decide (x.kind = 5)) a s := fun a ha r s h1 h2 h3 => ih a ha _ _ _ (h.sub a ha) h1 h2 h3
  have hF : ∀ a ∈ x.args, ∀ s : Bs, good s = true → oprR s = 0 → pE 0 (ins || decide (x.kind = 5)) (TL a ++ s) = some (a, s) := fun a ha s h1 h2 => by rw [hA a ha 0 s (rank_le a).1 h1 (by rw [h2]; exact (rank_le a).1), pL_stop (.inr h2)]
  have hP : ∀ a ∈ x.args, ∀ (r k : Int) (s : Bs), r ≤ k → good s = true → oprR s ≤ k → pE r (ins || decide (x.kind = 5)) ((if rank a < k then par (text a) else text a).data.toList ++ s) = pL r (ins || decide (x.kind = 5)) a s := by
    intro a ha r k s h1 h2 h3
    split
    · rw [par_list]; exact pE_of (pP_par (hF a ha (41 :: s) rfl rfl))
    · exact hA a ha r s (by omega) h2 (by omega)
  have hb := h.nb
  have hn := h.nn
  unfold nodeB at hb
  unfold nodeN at hn
  rw [show TL x = (textF x (tx x)).data.toList from congrArg (·.data.toList) (text_eq x)]
  unfold textF
  by_cases h1 : x.kind = 1
  · rw [if_pos h1] at hb ⊢
    rw [if_neg (by omega), if_neg (by omega), if_neg (by omega)] at hn
    exact pE_of (lit_read h1 hb (List.eq_nil_of_length_eq_zero (by omega)) G)
  rw [if_neg h1] at hb
  rw [if_neg h1]
  by_cases h5 : x.kind = 5
  · rw [if_neg (by omega), if_pos h5]
    rw [if_neg (by omega), if_pos (.inl h5)] at hn
    obtain ⟨a, b, ha⟩ := len2 (show x.args.length = 2 by omega)
    rw [if_neg (by omega), if_neg (by omega), if_pos h5] at hb
    obtain ⟨hi, ⟨y, hy, hop⟩, ht, hw, hp, hFl⟩ := hb
    have e := agg_eta h5 hFl
    rw [ha] at e
    rw [decide_eq_true h5, Bool.or_true] at hF
    have hcn := h.cn h5
    have hpr := fun (s : Bs) (hs : Stop s) => par_read hp hs
    unfold aggT
    rw [tx0 ha, tx1 ha, ha]
    rw [ha] at hcn
    simp only [List.getD_cons_zero, List.getD_cons_succ] at hcn ⊢
    rw [hop] at e hcn hpr ⊢
    obtain ⟨y1, y2, y3, y4, y5, y6, y7⟩ := agg_words y hy
    simp only [str_app, List.append_assoc]
    have fb := hF b (by rw [ha]; simp) (41 :: s) rfl rfl
    generalize hS5 : (if b = tru then (⟨#[]⟩ : Str) else ⟨#[32, 119, 104, 101, 114, 101, 32]⟩ ++ text b).data.toList ++ ((⟨#[41]⟩ : Str).data.toList ++ s) = S5
    have stop5 : Stop S5 := by
      rw [← hS5]; split
      · exact stop_cons (by decide)
      · rw [str_app, List.append_assoc]; exact stop_cons (by decide)
    have hlast : (match eat [32, 119, 104, 101, 114, 101, 32] S5 with
        | some s3 => pE 0 true s3
        | none => some (tru, S5)) = some (b, 41 :: s) := by
      rw [← hS5]
      by_cases hbt : b = tru
      · rw [if_pos hbt, hbt]; rfl
      · rw [if_neg hbt, str_app, List.append_assoc, show eat [32, 119, 104, 101, 114, 101, 32] ((⟨#[32, 119, 104, 101, 114, 101, 32]⟩ : Str).data.toList ++ ((text b).data.toList ++ ((⟨#[41]⟩ : Str).data.toList ++ s))) = some (TL b ++ (41 :: s)) from eat_app _ _]
        exact fb
    have hwin := win_read hw stop5
    generalize hS4 : (winT x.win).data.toList ++ S5 = S4 at hwin ⊢
    have hS3 : Stop (44 :: 32 :: S4) := stop_cons (by decide)
    have hpar := hpr (44 :: 32 :: S4) hS3
    generalize hS2 : (if x.param = 0 then (⟨#[]⟩ : Str) else ⟨#[44, 32]⟩ ++ intS x.param).data.toList ++ (44 :: 32 :: S4) = S2 at hpar
    have h2 : good S2 = true ∧ oprR S2 = 0 ∧ Stop S2 := by
      rw [← hS2]; split
      · exact ⟨rfl, rfl, stop_cons (by decide)⟩
      · rw [str_app, List.append_assoc]; exact ⟨rfl, rfl, stop_cons (by decide)⟩
    have fa := hF a (by rw [ha]; simp) S2 h2.1 h2.2.1
    generalize hS1 : (if y = cnt then (⟨#[]⟩ : Str) else ⟨#[44, 32]⟩ ++ text a).data.toList ++ S2 = S1
    have stop1 : Stop S1 := by
      rw [← hS1]; split
      · exact h2.2.2
      · rw [str_app, List.append_assoc]; exact stop_cons (by decide)
    have hfirst : (if y.data.toList = cnt.data.toList then some (tru, S1) else (eat [44, 32] S1) >>= fun s => pE 0 true s) = some (a, S2) := by
      rw [← hS1]
      by_cases hc : y = cnt
      · rw [if_pos (by rw [hc]), if_pos hc, hcn hc]; rfl
      · rw [if_neg (fun e => hc (list_str e)), if_neg hc, str_app, List.append_assoc, show eat [44, 32] ((⟨#[44, 32]⟩ : Str).data.toList ++ ((text a).data.toList ++ S2)) = some (TL a ++ S2) from eat_app _ _]
        exact fa
    have eT := wspan_app stop1 (word_w ht.1)
    have hS : y.data.toList ++ ((⟨#[40]⟩ : Str).data.toList ++ (x.table.data.toList ++ ((if y = cnt then (⟨#[]⟩ : Str) else ⟨#[44, 32]⟩ ++ text a).data.toList ++ ((if x.param = 0 then (⟨#[]⟩ : Str) else ⟨#[44, 32]⟩ ++ intS x.param).data.toList ++ ((⟨#[44, 32]⟩ : Str).data.toList ++ S4))))) = y.data.toList ++ (40 :: (x.table.data.toList ++ S1)) := by
      rw [← hS1, ← hS2]; rfl
    refine Eq.trans (congrArg (pE r ins) hS) ?_
    refine pE_of (Eq.trans (pP_word y1 y2 (stop_cons (by decide))) ?_)
    rw [pW, if_neg y3, if_neg y4, if_neg y5, if_neg y6, if_neg y7, show eat [40] (40 :: (x.table.data.toList ++ S1)) = some (x.table.data.toList ++ S1) from rfl]
    simp only [eT]
    rw [hfirst]
    simp only [Option.bind_eq_bind, Option.bind_some, hpar, show eat [44, 32] (44 :: 32 :: S4) = some S4 from rfl, hwin]
    refine Eq.trans (congrArg (fun z => Option.bind z fun b => (eat [41] b.snd).bind fun s4 => some ((⟨5, st y.data.toList, ⟨#[]⟩, st x.table.data.toList, ⟨0, 0, ⟨#[]⟩⟩, [], x.param, x.win, [a, b.fst]⟩ : Ex), s4)) hlast) ?_
    simp only [Option.bind_some, e41, st_eq]
    rw [← e]
  have hins : (ins || decide (x.kind = 5)) = ins := by rw [decide_eq_false h5, Bool.or_false]
  rw [hins] at hA hF hP
  by_cases h4 : x.kind = 4
  · rw [if_pos h4]
    rw [if_pos (.inl h4)] at hn
    obtain ⟨a, ha⟩ := List.length_eq_one_iff.1 (show x.args.length = 1 by omega)
    rw [if_neg (by omega), if_pos (.inr h4)] at hb
    have e := nam_eta hb.2.2
    rw [h4, ha] at e
    have hN := hb.2.1
    rw [tx0 ha]
    simp only [str_app, List.append_assoc]
    refine pE_of (Eq.trans (name_word hN ins (stop_cons (by decide))) ?_)
    show pW ins x.name.data.toList (32 :: 111 :: 102 :: 32 :: 40 :: (TL a ++ (41 :: s))) = _
    rw [pW_of hN (hF a (by rw [ha]; simp) (41 :: s) rfl rfl), ← e]
  rw [if_neg h4, if_neg h5]
  by_cases h6 : x.kind = 6
  · rw [if_pos h6]
    rw [if_pos (.inr h6)] at hn
    obtain ⟨a, ha⟩ := List.length_eq_one_iff.1 (show x.args.length = 1 by omega)
    have ham : a ∈ x.args := by rw [ha]; simp
    rw [if_neg (by omega), if_neg (by omega), if_neg (by omega), if_pos h6] at hb
    have e := op_eta hb.1
    rw [h6, ha] at e
    obtain ⟨y, hy, ho6⟩ := hb.2
    have hra : rank x = rank (ex0 6 x.op []) := rank_ko h6 rfl
    unfold unT atF
    rw [tx0 ha, ha]
    simp only [List.getD_cons_zero]
    simp only [unL, List.mem_cons, List.not_mem_nil, or_false] at hy
    rcases hy with rfl | rfl | rfl
    · rw [ho6] at e hra ⊢
      rw [if_pos rfl, str_app, List.append_assoc]
      have h8 := hP a ham 8 8 s (by omega) hg (by omega)
      rw [pL_stop (.inl (by omega))] at h8
      exact pE_of (Eq.trans (pP_neg h8) (by rw [← e]))
    · rw [ho6] at e hra ⊢
      rw [if_neg (by decide), if_pos rfl, str_app, List.append_assoc]
      have h4' : rank (ex0 6 ⟨#[110, 111, 116]⟩ []) = 4 := by decide
      have h8 := hP a ham 4 4 s (by omega) hg (by omega)
      rw [pL_stop (.inl (by omega))] at h8
      refine pE_of (Eq.trans (pP_word (w := [110, 111, 116]) (s := 32 :: ((if rank a < 4 then par (text a) else text a).data.toList ++ s)) (by decide) ⟨_, _, rfl, by decide⟩ (stop_cons (by decide))) ?_)
      rw [pW, if_neg (by decide), if_pos rfl]
      simp only [eat_cons, if_true, eat_nil, Option.bind_eq_bind, Option.bind_some, h8]
      rw [← e]
    · rw [ho6] at e hra ⊢
      rw [if_neg (by decide), if_neg (by decide), str_app, str_app, List.append_assoc, List.append_assoc]
      have h8 := hF a ham (41 :: s) rfl rfl
      refine pE_of (Eq.trans (pP_word (w := [110, 117, 108, 108]) (s := 40 :: (TL a ++ (41 :: s))) (by decide) ⟨_, _, rfl, by decide⟩ (stop_cons (by decide))) ?_)
      rw [pW, if_neg (by decide), if_neg (by decide), if_neg (by decide), if_neg (by decide), if_pos rfl]
      simp only [eat_cons, if_true, eat_nil, Option.bind_eq_bind, Option.bind_some, h8]
      rw [← e]
  rw [if_neg h6]
  by_cases h7 : x.kind = 7
  · rw [if_pos h7]
    rw [if_neg (by omega), if_pos (.inr (.inl h7))] at hn
    obtain ⟨a, b, ha⟩ := len2 (show x.args.length = 2 by omega)
    have ham : a ∈ x.args := by rw [ha]; simp
    have hbm : b ∈ x.args := by rw [ha]; simp
    rw [if_neg (by omega), if_neg (by omega), if_neg (by omega), if_neg (by omega), if_pos h7] at hb
    have e := op_eta hb.1
    rw [h7, ha] at e
    obtain ⟨y, hy, ho7⟩ := hb.2
    have hra : rank x = rank (ex0 7 x.op []) := rank_ko h7 rfl
    rw [ho7] at hra
    unfold binT atF
    rw [tx0 ha, tx1 ha, ha]
    simp only [List.getD_cons_zero, List.getD_cons_succ]
    rw [ho7]
    simp only [str_app, List.append_assoc]
    obtain ⟨o1, o2⟩ := opOf_bin y hy ((if rank b < rank x + 1 then par (text b) else text b).data.toList ++ s)
    rw [← hra] at o1
    have o3 := oprR_of o1
    have hl : rank x ≤ leftR x := by unfold leftR; split <;> omega
    have hB := hP b hbm (rank x + 1) (rank x + 1) s (Int.le_refl _) hg (by omega)
    rw [pL_stop (.inl (by omega))] at hB
    refine Eq.trans (hP a ham r (leftR x) (32 :: (y.data.toList ++ (32 :: ((if rank b < rank x + 1 then par (text b) else text b).data.toList ++ s)))) (by omega) o2 (by rw [o3]; exact hl)) ?_
    rw [pL_op o1 hr hB, ← ho7, ← e]
  rw [if_neg h7]
  by_cases h8 : x.kind = 8
  · rw [if_pos h8]
    rw [if_neg (by omega), if_neg (by omega), if_pos h8] at hn
    obtain ⟨a, b, c, ha⟩ := len3 (show x.args.length = 3 by omega)
    rw [if_neg (by omega), if_neg (by omega), if_neg (by omega), if_neg (by omega), if_neg (by omega), if_pos (.inl h8)] at hb
    have e := op_eta hb.1
    rw [h8, ha, hb.2] at e
    have hra : rank x = 0 := by unfold rank; rw [if_pos h8]
    unfold ifT
    rw [tx0 ha, tx1 ha, tx2 ha]
    simp only [str_app, List.append_assoc]
    have fa := hF a (by rw [ha]; simp) (32 :: 116 :: 104 :: 101 :: 110 :: 32 :: (TL b ++ (32 :: 101 :: 108 :: 115 :: 101 :: 32 :: (TL c ++ s)))) rfl rfl
    have fb := hF b (by rw [ha]; simp) (32 :: 101 :: 108 :: 115 :: 101 :: 32 :: (TL c ++ s)) rfl rfl
    have fc := hF c (by rw [ha]; simp) s hg (by omega)
    refine pE_of (Eq.trans (pP_word (w := [105, 102]) (s := 32 :: (TL a ++ (32 :: 116 :: 104 :: 101 :: 110 :: 32 :: (TL b ++ (32 :: 101 :: 108 :: 115 :: 101 :: 32 :: (TL c ++ s)))))) (by decide) ⟨_, _, rfl, by decide⟩ (stop_cons (by decide))) ?_)
    rw [pW, if_pos rfl]
    simp only [eat_cons, if_true, eat_nil, Option.bind_eq_bind, Option.bind_some, fa, fb, fc]
    rw [← e]
  rw [if_neg h8]
  by_cases h9 : x.kind = 9
  · rw [if_pos h9]
    rw [if_neg (by omega), if_pos (.inr (.inr h9))] at hn
    obtain ⟨a, b, ha⟩ := len2 (show x.args.length = 2 by omega)
    have ham : a ∈ x.args := by rw [ha]; simp
    have hbm : b ∈ x.args := by rw [ha]; simp
    rw [if_neg (by omega), if_neg (by omega), if_neg (by omega), if_neg (by omega), if_neg (by omega), if_pos (.inr h9)] at hb
    have e := op_eta hb.1
    rw [h9, ha, hb.2] at e
    have hra : rank x = 1 := by unfold rank; rw [if_neg h8, if_pos h9]
    unfold defT atF
    rw [tx0 ha, tx1 ha, ha]
    simp only [List.getD_cons_zero, List.getD_cons_succ]
    simp only [str_app, List.append_assoc]
    have hB := hP b hbm 2 2 s (by omega) hg (by omega)
    rw [pL_stop (.inl (by omega))] at hB
    refine Eq.trans (hP a ham r 1 (32 :: 100 :: 101 :: 102 :: 97 :: 117 :: 108 :: 116 :: 32 :: ((if rank b < 2 then par (text b) else text b).data.toList ++ s)) (by omega) rfl (by exact Int.le_refl 1)) ?_
    rw [pL_op (k := 9) (o := ⟨#[]⟩) (q := 1) (s := (if rank b < 2 then par (text b) else text b).data.toList ++ s) rfl (by omega) hB, ← e]
  rw [if_neg h9]
  rw [if_neg (by omega), if_neg (by omega), if_neg (by omega)] at hn
  have hargs : x.args = [] := List.eq_nil_of_length_eq_zero (by omega)
  have hN : namOK x ∧ x.kind = if ins = true then 2 else 3 := by
    split at hb
    · rename_i h2; exact ⟨hb.2, by rw [hb.1, h2]; rfl⟩
    · split at hb
      · rename_i h3; exact ⟨hb.2, by rw [hb.1, h3.resolve_right h4]; rfl⟩
      · rw [if_neg (by omega)] at hb; exact hb.elim
  have e := nam_eta hN.1.2
  rw [hN.2, hargs] at e
  exact pE_of (Eq.trans (name_word hN.1.1 ins G.stop) (by rw [pW_nm hN.1.1 G.par G.of, ← e]))
/-- P11.3: different expressions of proper form have different texts. -/
theorem text_inj {x y : Ex} (hx : form false x = true) (hy : form false y = true) (h : text x = text y) : x = y := by
  have h1 := parse_text x false 0 [] hx (rank_le x).1 rfl (rank_le x).1
  have h2 := parse_text y false 0 [] hy (rank_le y).1 rfl (rank_le y).1
  rw [show TL x = TL y from congrArg (·.data.toList) h, h2, pL_stop (.inr rfl), pL_stop (.inr rfl)] at h1
  exact (Prod.mk.inj (Option.some.inj h1)).1.symm
end Go.Proofs.YtklncofkcfjkeaaGreatDoor
