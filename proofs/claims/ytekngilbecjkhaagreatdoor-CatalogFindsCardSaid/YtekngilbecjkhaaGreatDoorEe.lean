
/- The example of the statements. -/
import Derived.Test.YtekngilbecjkhaaGreatDoorEd
set_option linter.unusedSimpArgs false
set_option linter.unusedVariables false
set_option maxRecDepth 100000
set_option maxHeartbeats 4000000
namespace Go.Sx
section
variable {P : Program} [Glob P] {cfg : Nat → Nat} {K : Regs → Store → Prop} {E : List PanicEntry → Store → Prop} {σ : Store} {l : List CI} {d : Nat} {xr : XR} {ps : List Prop} {als cf : List Nat} {ix : Nat} {ld : List CD} {og : Option Bool}
theorem VX.u4 {t : TypeId} {esz bytes : Nat} {z : List Value} {x y : Operand} {w : AV} {r : List AV} {rows rs : List (List AV)} (hps : OB ps) (hb : (rows.length + (r :: rs).length) * bytes ≤ 35184372088832) (k : ∀ b u c, VX P cfg l K E ((d, .s (.own esz d b u c (rows ++ r :: rs))) :: xr) ((d, b, .tail u c) :: σ)) (h : argO xr none [x, y] = some (og, [.fl esz rows, w], ps) := by exact rfl) (hw : rowsV esz w = some (r :: rs) := by exact rfl) : VX P cfg (⟨some d, .append t esz bytes z x y, none⟩ :: l) K E xr σ := VX_appf h hw hps hb (fun e => nomatch e) fun _ => k
theorem VY.u4 {t : TypeId} {esz bytes : Nat} {z : List Value} {x y : Operand} {w : AV} {r : List AV} {rows rs : List (List AV)} (hps : OB ps) (hb : (rows.length + (r :: rs).length) * bytes ≤ 35184372088832) (k : ∀ b u c, VY P cfg als ld K ((d, .s (.own esz d b u c (rows ++ r :: rs))) :: xr) ((d, b, .tail u c) :: σ)) (h : argO xr none [x, y] = some (og, [.fl esz rows, w], ps) := by exact rfl) (hw : rowsV esz w = some (r :: rs) := by exact rfl) (ha : als.elem d = true := by exact rfl) : VY P cfg als (⟨ix, ⟨some d, .append t esz bytes z x y, none⟩, cf⟩ :: ld) K xr σ := VY_appf h hw ha hps hb (fun e => nomatch e) fun _ => k
theorem VY.u5 {esz tg b u c : Nat} {x y : Operand} {hv : AV} {h : Int} {rows : List (List AV)} (hps : OB ps) (hb : 0 ≤ h ∧ h ≤ rows.length) (k : VY P cfg als ld K ((d, .s (.own esz tg b u c (rows.drop h.toNat))) :: xr) σ) (ha : argO xr none [x, y] = some (og, [.own esz tg b u c rows, hv], ps) := by exact rfl) (hi : intO hv = some h := by exact rfl) : VY P cfg als (⟨ix, ⟨some d, .slice esz x (some y) none, none⟩, cf⟩ :: ld) K xr σ := by
  obtain ⟨_, he⟩ := argO_eq ha
  unfold argO gX at ha
  obtain ⟨ps', h', _, _⟩ := needs_eq ha
  have hog : og = none := by split at h' <;> cases h'; rfl
  subst hog
  have := he hps rfl
  simp only [evs, List.cons.injEq, and_true] at this
  obtain ⟨q, hq⟩ := intO_eq hi
  constructor
  simp only [vcM, vcGD, vcOD, IOp.cls, vcOQ, vcO, Option.map_none, Option.map_some, this.1, this.2, idx?, hq, Option.getD_none, Option.getD_some]
  exact ⟨trivial, hb.1, hb.2, Int.le_refl _, k.h⟩
end
theorem WkL.get {xs ys : List AV} (h : WkL xs ys) : xs.length = ys.length ∧ ∀ j (h1 : j < xs.length) (h2 : j < ys.length), Wk xs[j] ys[j] := by
  induction h with
  | nil => exact ⟨rfl, fun j h1 => absurd h1 (by simp)⟩
  | cons h t ih =>
    refine ⟨by simp [ih.1], fun j h1 h2 => ?_⟩
    cases j with
    | zero => exact h
    | succ j => exact ih.2 j (by simpa using h1) (by simpa using h2)
inductive WkLL : List (List AV) → List (List AV) → Prop
  | nil : WkLL [] []
  | cons {x y : List AV} {xs ys : List (List AV)} (h : WkL x y) (t : WkLL xs ys) : WkLL (x :: xs) (y :: ys)
theorem WkLL.get {xs ys : List (List AV)} (h : WkLL xs ys) : xs.length = ys.length ∧ ∀ j (h1 : j < xs.length) (h2 : j < ys.length), WkL xs[j] ys[j] := by
  induction h with
  | nil => exact ⟨rfl, fun j h1 => absurd h1 (by simp)⟩
  | cons h t ih =>
    refine ⟨by simp [ih.1], fun j h1 h2 => ?_⟩
    cases j with
    | zero => exact h
    | succ j => exact ih.2 j (by simpa using h1) (by simpa using h2)
theorem Wk.rows {nn : Bool} {n : Nat} {rows rows' : List (List AV)} (h : WkLL rows rows') : Wk (.sl nn n rows) (.sl false n rows') := fun M v hv => by
  obtain ⟨hl, hg⟩ := h.get
  cases hv with
  | nil _ _ a ha =>
    obtain rfl : rows' = [] := List.eq_nil_of_length_eq_zero hl.symm
    exact .nil _ _ a (fun h => nomatch h)
  | sl _ _ _ b off cap cs hsz hM hR hc hm =>
    rw [hl]
    refine .sl _ _ _ b off cap cs (fun i hi => ?_) (fun k hk => hM k (by rw [hl]; exact hk)) (fun i hi j hj => ?_) (by omega) hm
    · have := (hg i (by omega) hi).get.1
      rw [← this]; exact hsz i (by omega)
    · have hgi := (hg i (by omega) hi).get
      have := hR i (by omega) j (by rw [hgi.1]; exact hj)
      exact hgi.2 j (by rw [hgi.1]; exact hj) hj M _ this
end Go.Sx
namespace Go.Proofs.YtekngilbecjkhaaGreatDoor
open Go.Sx Go.Proofs Go.Tb
abbrev s0 : Str := ⟨#[]⟩
abbrev sA : Str := ⟨#[97]⟩
abbrev sB : Str := ⟨#[98]⟩
abbrev sC : Str := ⟨#[99]⟩
abbrev sD : Str := ⟨#[100]⟩
abbrev sE : Str := ⟨#[101]⟩
abbrev sK : Str := ⟨#[107]⟩
abbrev sU : Str := ⟨#[117, 115, 101, 114]⟩
abbrev sT : Str := ⟨#[99, 108, 105, 99, 107, 115]⟩
abbrev sN : Str := ⟨#[99, 111, 117, 110, 116]⟩
abbrev nilV : AV := .v (.slice none 0 0)
def useX (n : Str) : Ex := ⟨3, s0, n, s0, ⟨0, 0, s0⟩, [], 0, ⟨0, 0⟩, []⟩
def feaX (n : Str) (x : Ex) : Fea := ⟨n, sU, ⟨2, [], s0⟩, x, 1⟩
def yesX : Ex := ⟨1, s0, s0, s0, ⟨1, 1, s0⟩, [], 0, ⟨0, 0⟩, []⟩
def zeroX : Ex := ⟨1, s0, s0, s0, ⟨2, 0, s0⟩, [], 0, ⟨0, 0⟩, []⟩
def cntX : Ex := ⟨5, sN, s0, sT, ⟨0, 0, s0⟩, [], 0, ⟨1, 0⟩, [yesX, yesX]⟩
def bX : Ex := ⟨7, ⟨#[43]⟩, s0, s0, ⟨0, 0, s0⟩, [], 0, ⟨0, 0⟩, [useX sA, useX sC]⟩
def cX : Ex := ⟨9, s0, s0, s0, ⟨0, 0, s0⟩, [], 0, ⟨0, 0⟩, [useX sA, zeroX]⟩
def dX : Ex := ⟨4, s0, sE, s0, ⟨0, 0, s0⟩, [], 0, ⟨0, 0⟩, [useX sK]⟩
def aX : Ex := ⟨7, ⟨#[43]⟩, s0, s0, ⟨0, 0, s0⟩, [], 0, ⟨0, 0⟩, [useX sC, zeroX]⟩
def fs1 : List Fea := [feaX sA cntX, feaX sB bX, feaX sC cX, feaX sD dX]
def fs2 : List Fea := [feaX sA aX, feaX sB bX, feaX sC cX, feaX sD dX]
def cat1 : Cat := ⟨[⟨sT, sU, [], 0⟩], fs1, [], []⟩
def cat2 : Cat := ⟨[⟨sT, sU, [], 0⟩], fs2, [], []⟩
theorem use_ok (n : Str) : Pure Tryz.prog 44 [sv n] (.agg (useX n).row) := by
  refine Pure.runk (fun _ => 0) Tryz.func44 comp44 era44 (Nat.le_of_ble_eq_true rfl) fun σ => ?_
  repeat' (first | exact .nil | refine .k0 ?_ | refine .k1 ?_ | refine .k2 ?_ | refine .k7 ?_ | refine .r1 ?_ ?_ | (refine .l1 ?_; intro b) | fail)
  try any_goals ((intro hob; fail))
  all_goals (try simp only [BL] at *)
  (refine Sx.Fin.wk (by repeat' first | exact .refl _ | refine .cons ?_) ?_; repeat' first | exact .refl _ | exact .nil | refine .cons ?_ ?_ | refine .agg ?_ | fail)
theorem feature_ok (n : Str) (x : Ex) : Pure Tryz.prog 43 [sv n, .agg x.row] (.agg (feaX n x).cells) := by
  refine Pure.runk (fun _ => 0) Tryz.func43 comp43 era43 (Nat.le_of_ble_eq_true rfl) fun σ => ?_
  repeat' (first | exact .nil | refine .k0 ?_ | refine .k1 ?_ | refine .k2 ?_ | refine .k7 ?_ | refine .r1 ?_ ?_ | (refine .l1 ?_; intro b) | (refine .m1 ?_ ?_; intro b) | fail)
  try any_goals ((intro hob; fail))
  all_goals (try simp only [BL] at *)
  (refine Sx.Fin.wk (by repeat' first | exact .refl _ | refine .cons ?_) ?_; repeat' first | exact .refl _ | exact .nil | refine .cons ?_ ?_ | refine .agg ?_ | fail)
theorem sLt_lit : sLt sA sB = true ∧ sLt sA sC = true ∧ sLt sA sD = true ∧ sLt sB sC = true ∧ sLt sB sD = true ∧ sLt sC sD = true ∧ sLt sE sK = true ∧ sLt sA sA = false ∧ sLt sB sA = false ∧ sLt sC sA = false ∧ sLt sC sB = false ∧ sLt sD sA = false ∧ sLt sD sB = false ∧ sLt sD sC = false := by
  simp [sLt, ByteArray.toList_eq, Op.bytesLess]
theorem find_1 : findF fs1 sA = some (feaX sA cntX) ∧ findF fs1 sB = some (feaX sB bX) ∧ findF fs1 sC = some (feaX sC cX) ∧ findF fs1 sD = some (feaX sD dX) ∧ findF fs1 sE = none ∧ findF fs1 sK = none := by simp [findF, fs1, feaX]
theorem find_2 : findF fs2 sA = some (feaX sA aX) ∧ findF fs2 sB = some (feaX sB bX) ∧ findF fs2 sC = some (feaX sC cX) ∧ findF fs2 sD = some (feaX sD dX) ∧ findF fs2 sE = none ∧ findF fs2 sK = none := by simp [findF, fs2, feaX]
theorem names_1 : namesF fs1 = [sA, sB, sC, sD] := srt_ext (namesF_srt _) (by simp [Srt, sLt_lit]) fun x => by
  rw [namesF_mem, inF_iff]; simp [fs1, feaX, eq_comm]
theorem names_2 : namesF fs2 = [sA, sB, sC, sD] := srt_ext (namesF_srt _) (by simp [Srt, sLt_lit]) fun x => by
  rw [namesF_mem, inF_iff]; simp [fs2, feaX, eq_comm]
theorem feats_lit : cntX.feats = [] ∧ bX.feats = [sA, sC] ∧ cX.feats = [sA] ∧ dX.feats = [sE, sK] ∧ aX.feats = [sC] ∧ cntX.tabs = [sT] ∧ bX.tabs = [] ∧ cX.tabs = [] ∧ dX.tabs = [] ∧ aX.tabs = [] := ⟨rfl, rfl, rfl, rfl, rfl, rfl, rfl, rfl, rfl, rfl⟩
theorem dir_eq {x : Ex} {l : List Str} (h : Srt l) (e : x.feats = l) : dirF x = l := srt_ext (dirF_srt x) h fun s => by rw [dirF_mem, e]
theorem deps_at {fs : List Fea} {n : Str} {f : Fea} {l m : List Str} (hf : findF fs n = some f) (he : f.body.feats = l) (hs : Srt l) (hm : l.filter (inF fs) = m) : deps fs n = m := by
  unfold deps; rw [hf]; simp only [dir_eq hs he]; exact hm
theorem deps_1 : deps fs1 sA = [] ∧ deps fs1 sB = [sA, sC] ∧ deps fs1 sC = [sA] ∧ deps fs1 sD = [] := by
  obtain ⟨h1, h2, h3, h4, h5, h6⟩ := find_1
  refine ⟨deps_at h1 feats_lit.1 (by simp [Srt]) rfl, deps_at h2 feats_lit.2.1 (by simp [Srt, sLt_lit]) ?_, deps_at h3 feats_lit.2.2.1 (by simp [Srt]) ?_, deps_at h4 feats_lit.2.2.2.1 (by simp [Srt, sLt_lit]) ?_⟩
  all_goals simp [inF, h1, h2, h3, h4, h5, h6]
theorem deps_2 : deps fs2 sA = [sC] ∧ deps fs2 sB = [sA, sC] ∧ deps fs2 sC = [sA] ∧ deps fs2 sD = [] := by
  obtain ⟨h1, h2, h3, h4, h5, h6⟩ := find_2
  refine ⟨deps_at h1 feats_lit.2.2.2.2.1 (by simp [Srt]) ?_, deps_at h2 feats_lit.2.1 (by simp [Srt, sLt_lit]) ?_, deps_at h3 feats_lit.2.2.1 (by simp [Srt]) ?_, deps_at h4 feats_lit.2.2.2.1 (by simp [Srt, sLt_lit]) ?_⟩
  all_goals simp [inF, h1, h2, h3, h4, h5, h6]
theorem order_1 : orderL (deps fs1) (namesF fs1) = [sA, sC, sB, sD] := by
  obtain ⟨h1, h2, h3, h4⟩ := deps_1
  rw [names_1]
  simp [orderL, ordL, ordNext, ready, List.find?, h1, h2, h3, h4]
theorem order_2 : orderL (deps fs2) (namesF fs2) = [sD] := by
  obtain ⟨h1, h2, h3, h4⟩ := deps_2
  rw [names_2]
  simp [orderL, ordL, ordNext, ready, List.find?, h1, h2, h3, h4]
theorem rank_cyc {g : Str → List Str} {r : Str → Nat} (h : ∀ a b, b ∈ g a → r b < r a) : ∀ (q : List Str) (a : Str), Pth g a q → r (lst a q) ≤ r a
  | [], a, _ => Nat.le_refl _
  | b :: q, a, hp => by have h1 := rank_cyc h q b hp.2; have h2 := h a b hp.1; rw [lst]; omega
theorem deps_in {fs : List Fea} {N : List Str} (hN : namesF fs = N) {a b : Str} (h : b ∈ deps fs a) : a ∈ N := by rw [← hN]; exact deps_of h
def rk1 (s : Str) : Nat := if s = sB then 2 else if s = sC then 1 else 0
theorem cyc_1 : cycL (deps fs1) (namesF fs1) = [] := cycL_eq (.inl ⟨rfl, fun a _ q hc => by
  have hr : ∀ a b, b ∈ deps fs1 a → rk1 b < rk1 a := fun a b hb => by
    obtain ⟨h1, h2, h3, h4⟩ := deps_1
    have ha := deps_in names_1 hb
    simp only [List.mem_cons, List.not_mem_nil, or_false] at ha
    rcases ha with rfl | rfl | rfl | rfl
    · rw [h1] at hb; cases hb
    · rw [h2] at hb; simp at hb; rcases hb with rfl | rfl <;> decide
    · rw [h3] at hb; simp at hb; subst hb; decide
    · rw [h4] at hb; cases hb
  have h1 := rank_cyc hr q a hc.1
  have h2 := hr _ _ hc.2
  omega⟩)
theorem cyc_2 : cycL (deps fs2) (namesF fs2) = [sA, sC] := cycL_eq (.inr ⟨sA, [sC], rfl, by rw [names_2]; simp, by
    obtain ⟨h1, h2, h3, h4⟩ := deps_2
    refine ⟨⟨⟨by rw [h1]; simp, trivial⟩, by show sA ∈ deps fs2 sC; rw [h3]; simp⟩, fun m hm => ?_, fun m hm hl => ?_⟩
    · cases m with
      | nil => have := hm.2; simp only [lst, h1, List.mem_singleton] at this; exact absurd this (by decide)
      | cons b m => simp
    · match m, hl, hm with
      | [b], _, hm =>
        have := hm.1.1
        rw [h1, List.mem_singleton] at this
        subst this; exact .inl rfl, fun b hb hlt => by
    rw [names_2] at hb
    simp only [List.mem_cons, List.not_mem_nil, or_false] at hb
    rcases hb with rfl | rfl | rfl | rfl <;> simp [sLt_lit] at hlt, fun b hb m hm => by
    obtain ⟨h1, h2, h3, h4⟩ := deps_2
    cases m with
    | cons c m => simp
    | nil =>
      exfalso
      have := hm.2
      rw [names_2] at hb
      simp only [List.mem_cons, List.not_mem_nil, or_false] at hb
      simp only [lst] at this
      rcases hb with rfl | rfl | rfl | rfl
      · rw [h1] at this; exact absurd this (by decide)
      · rw [h2] at this; exact absurd this (by decide)
      · rw [h3] at this; exact absurd this (by decide)
      · rw [h4] at this; cases this⟩)
theorem uses_1 : usesF fs1 bX = [sA, sC] ∧ usesT fs1 bX = [sT] := by
  obtain ⟨h1, h2, h3, h4, h5, h6⟩ := find_1
  obtain ⟨k1, k2, k3, k4, k5, k6, k7, k8, k9, k10⟩ := feats_lit
  have := reach_of_closed (fs := fs1) (s := bX.feats) (t := bX.tabs) (F := [sA, sC]) (T := [sT]) (by rw [k2]; exact fun n h => h) (by rw [k7]; exact fun n h => nomatch h) (by rw [k2]; exact fun n h => .base h)
    (fun x hx => .inr ⟨sA, _, .base (by rw [k2]; simp), h1, by rw [show (feaX sA cntX).body.tabs = [sT] from k6]; exact hx⟩) (fun n hn f hf => by
      simp only [List.mem_cons, List.not_mem_nil, or_false] at hn
      rcases hn with rfl | rfl
      · rw [h1] at hf; cases hf
        rw [show (feaX sA cntX).body.feats = [] from k1, show (feaX sA cntX).body.tabs = [sT] from k6]
        exact ⟨fun m h => (nomatch h), fun m h => h⟩
      · rw [h3] at hf; cases hf
        rw [show (feaX sC cX).body.feats = [sA] from k3, show (feaX sC cX).body.tabs = [] from k8]
        exact ⟨fun m h => by simp at h; simp [h], fun m h => (nomatch h)⟩)
  exact ⟨srtOf_eq (by simp [Srt, sLt_lit]) this.1, srtOf_eq (by simp [Srt]) this.2⟩
theorem uses_2 : usesF fs1 dX = [sE, sK] ∧ usesT fs1 dX = [] := by
  obtain ⟨h1, h2, h3, h4, h5, h6⟩ := find_1
  obtain ⟨k1, k2, k3, k4, k5, k6, k7, k8, k9, k10⟩ := feats_lit
  have := reach_of_closed (fs := fs1) (s := dX.feats) (t := dX.tabs) (F := [sE, sK]) (T := []) (by rw [k4]; exact fun n h => h) (by rw [k9]; exact fun n h => nomatch h) (by rw [k4]; exact fun n h => .base h)
    (fun x hx => nomatch hx) (fun n hn f hf => by
      simp only [List.mem_cons, List.not_mem_nil, or_false] at hn
      rcases hn with rfl | rfl
      · rw [h5] at hf; cases hf
      · rw [h6] at hf; cases hf)
  exact ⟨srtOf_eq (by simp [Srt, sLt_lit]) this.1, srtOf_eq (by simp [Srt]) this.2⟩
theorem versions0_ok : Pure Tryz.prog 37 [.agg [nilV, nilV, nilV, nilV]] (iv 0) := by
  refine Pure.runk (fun _ => 0) Tryz.func37 comp37 era37 (Nat.le_of_ble_eq_true rfl) fun σ => ?_
  repeat' (first | exact .nil | refine .k0 ?_ | refine .k1 ?_ | refine .k2 ?_ | refine .k6 ?_ | refine .r1 ?_ ?_ | (refine .m1 ?_ ?_; intro b) | (refine .m3 ?_ ?_; intro hlen) | (refine .l3 ?_; intro b) | fail)
  try any_goals ((intro hob; fail))
  all_goals (try simp only [BL] at *)
  · decide
  refine WK_loop (fun n rg σ' => ∃ i : Nat, i ≤ 3 ∧ n = 3 - i ∧ σ' = (11, b, Blk.map [] 0) :: σ ∧ rg = [(3, .mpt 11 b), (18, .sl true 1 [[nilV], [nilV], [nilV]]), (19, iv 3), (20, iv i)]) 3 rfl ⟨_, _, by repeat' first | exact .refl _ | fail, by repeat' first | exact .refl _ | refine .same ?_ | refine .cons ?_, 0, by omega, rfl, rfl, rfl⟩ ?_
  rintro n _ _ ⟨i, hi, hn, rfl, rfl⟩
  rcases (show i = 0 ∨ i = 1 ∨ i = 2 ∨ i = 3 by omega) with rfl | rfl | rfl | rfl
  · repeat' (first | exact .nil | refine .k0 ?_ | refine .k1 ?_ | refine .k2 ?_ | refine .k6 ?_ | refine .k7 ?_ | refine .k8 ?_ | refine .k9 ?_ | (refine .cd ?_ ?_ <;> (intro hc; skip)) | refine .r1 ?_ ?_ | refine .r8 ?_ ?_ | fail)
    try any_goals ((intro hob; fail))
    all_goals (try simp only [BL] at *)
    any_goals (show True ∧ _; exact ⟨trivial, by decide, by decide⟩)
    any_goals (show Sx.Fin _ _ _ _; (refine Sx.Fin.wk (by repeat' first | exact .refl _ | refine .cons ?_) ?_; repeat' first | exact .refl _ | fail))
    all_goals
      refine WK_loop (fun n rg σ' => σ' = (11, b, Blk.map [] 0) :: σ ∧ rg = [(3, .mpt 11 b), (4, iv (0 : Nat)), (5, nilV), (18, .sl true 1 [[nilV], [nilV], [nilV]]), (19, iv 3), (20, iv (0 : Nat)), (25, nilV), (26, iv (0 : Nat)), (27, iv 0)]) 0 rfl ⟨_, _, by repeat' first | exact .refl _ | fail, by repeat' first | exact .refl _ | fail, rfl, rfl⟩ ?_
      rintro n2 _ _ ⟨rfl, rfl⟩
      repeat' (first | exact .nil | refine .k0 ?_ | refine .k1 ?_ | refine .k2 ?_ | refine .k6 ?_ | refine .k8 ?_ | refine .k9 ?_ | (refine .cd ?_ ?_ <;> (intro hc; skip)) | refine .r1 ?_ ?_ | fail)
      try any_goals ((intro hob; fail))
      all_goals (try simp only [BL] at *)
      all_goals first
        | (exfalso; revert hc; decide)
        | (refine ⟨3 - 1, by omega, _, _, by repeat' first | exact .refl _ | fail, by repeat' first | exact .refl _ | fail, 1, by omega, rfl, rfl, rfl⟩)
  · repeat' (first | exact .nil | refine .k0 ?_ | refine .k1 ?_ | refine .k2 ?_ | refine .k6 ?_ | refine .k7 ?_ | refine .k8 ?_ | refine .k9 ?_ | (refine .cd ?_ ?_ <;> (intro hc; skip)) | refine .r1 ?_ ?_ | refine .r8 ?_ ?_ | fail)
    try any_goals ((intro hob; fail))
    all_goals (try simp only [BL] at *)
    any_goals (show True ∧ _; exact ⟨trivial, by decide, by decide⟩)
    any_goals (show Sx.Fin _ _ _ _; (refine Sx.Fin.wk (by repeat' first | exact .refl _ | refine .cons ?_) ?_; repeat' first | exact .refl _ | fail))
    all_goals
      refine WK_loop (fun n rg σ' => σ' = (11, b, Blk.map [] 0) :: σ ∧ rg = [(3, .mpt 11 b), (4, iv (1 : Nat)), (5, nilV), (18, .sl true 1 [[nilV], [nilV], [nilV]]), (19, iv 3), (20, iv (1 : Nat)), (25, nilV), (26, iv (0 : Nat)), (27, iv 0)]) 0 rfl ⟨_, _, by repeat' first | exact .refl _ | fail, by repeat' first | exact .refl _ | fail, rfl, rfl⟩ ?_
      rintro n2 _ _ ⟨rfl, rfl⟩
      repeat' (first | exact .nil | refine .k0 ?_ | refine .k1 ?_ | refine .k2 ?_ | refine .k6 ?_ | refine .k8 ?_ | refine .k9 ?_ | (refine .cd ?_ ?_ <;> (intro hc; skip)) | refine .r1 ?_ ?_ | fail)
      try any_goals ((intro hob; fail))
      all_goals (try simp only [BL] at *)
      all_goals first
        | (exfalso; revert hc; decide)
        | (refine ⟨3 - 2, by omega, _, _, by repeat' first | exact .refl _ | fail, by repeat' first | exact .refl _ | fail, 2, by omega, rfl, rfl, rfl⟩)
  · repeat' (first | exact .nil | refine .k0 ?_ | refine .k1 ?_ | refine .k2 ?_ | refine .k6 ?_ | refine .k7 ?_ | refine .k8 ?_ | refine .k9 ?_ | (refine .cd ?_ ?_ <;> (intro hc; skip)) | refine .r1 ?_ ?_ | refine .r8 ?_ ?_ | fail)
    try any_goals ((intro hob; fail))
    all_goals (try simp only [BL] at *)
    any_goals (show True ∧ _; exact ⟨trivial, by decide, by decide⟩)
    any_goals (show Sx.Fin _ _ _ _; (refine Sx.Fin.wk (by repeat' first | exact .refl _ | refine .cons ?_) ?_; repeat' first | exact .refl _ | fail))
    all_goals
      refine WK_loop (fun n rg σ' => σ' = (11, b, Blk.map [] 0) :: σ ∧ rg = [(3, .mpt 11 b), (4, iv (2 : Nat)), (5, nilV), (18, .sl true 1 [[nilV], [nilV], [nilV]]), (19, iv 3), (20, iv (2 : Nat)), (25, nilV), (26, iv (0 : Nat)), (27, iv 0)]) 0 rfl ⟨_, _, by repeat' first | exact .refl _ | fail, by repeat' first | exact .refl _ | fail, rfl, rfl⟩ ?_
      rintro n2 _ _ ⟨rfl, rfl⟩
      repeat' (first | exact .nil | refine .k0 ?_ | refine .k1 ?_ | refine .k2 ?_ | refine .k6 ?_ | refine .k8 ?_ | refine .k9 ?_ | (refine .cd ?_ ?_ <;> (intro hc; skip)) | refine .r1 ?_ ?_ | fail)
      try any_goals ((intro hob; fail))
      all_goals (try simp only [BL] at *)
      all_goals first
        | (exfalso; revert hc; decide)
        | (refine ⟨3 - 3, by omega, _, _, by repeat' first | exact .refl _ | fail, by repeat' first | exact .refl _ | fail, 3, by omega, rfl, rfl, rfl⟩)
  · repeat' (first | exact .nil | refine .k0 ?_ | refine .k1 ?_ | refine .k2 ?_ | refine .k6 ?_ | refine .k7 ?_ | refine .k8 ?_ | refine .k9 ?_ | (refine .cd ?_ ?_ <;> (intro hc; skip)) | refine .r1 ?_ ?_ | refine .r8 ?_ ?_ | fail)
    try any_goals ((intro hob; fail))
    all_goals (try simp only [BL] at *)
    all_goals first | (exfalso; revert hc; decide) | (show Sx.Fin _ _ _ _; (refine Sx.Fin.wk (by repeat' first | exact .refl _ | refine .cons ?_) ?_; repeat' first | exact .refl _ | fail))
def cat0 : Cat := ⟨[], [], [], []⟩
theorem cyc_0 : cycL (deps []) (namesF []) = [] := cycL_eq (.inl ⟨rfl, fun a h => nomatch h⟩)
theorem cycle0_ok : Pure Tryz.prog 18 [.agg [nilV, nilV, nilV, nilV]] (strsV []) := by
  have h := cycle_ok cat0 ⟨fun f h => (nomatch h), fun f h => (nomatch h), by show 0 ≤ _; omega⟩
  rw [show cycL (deps cat0.features) (namesF cat0.features) = [] from cyc_0] at h
  exact h.wk (.cons (.agg (.cons .nil (.cons .nil (.cons .nil (.cons .nil .nil))))) .nil)
theorem check0_ok : Pure Tryz.prog 11 [.agg [nilV, nilV, nilV, nilV]] (iv 0) := by
  refine Pure.runk (fun _ => 0) Tryz.func11 comp11 era11 (Nat.le_of_ble_eq_true rfl) fun σ => ?_
  repeat' (first | exact .nil | refine .k0 ?_ | refine .k1 ?_ | refine .k2 ?_ | refine .k6 ?_ | refine .k7 ?_ | refine .k9 ?_ | (refine .cd ?_ ?_ <;> (intro hc; skip)) | refine .r1 ?_ ?_ | (refine .m1 ?_ ?_; intro b) | refine .r8 ?_ ?_ | fail)
  try any_goals ((intro hob; fail))
  all_goals (try simp only [BL] at *)
  · exfalso; revert hc; decide
  refine WK_loop (fun n rg σ' => σ' = (1, b, Blk.cells [nilV, nilV, nilV, nilV]) :: σ ∧ rg = [(1, .lp 1 b 0), (33, nilV), (34, iv (0 : Nat)), (35, iv 0)]) 0 rfl ⟨_, _, by repeat' first | exact .refl _ | fail, by repeat' first | exact .refl _ | fail, rfl, rfl⟩ ?_
  rintro n _ _ ⟨rfl, rfl⟩
  repeat' (first | exact .nil | refine .k0 ?_ | refine .k1 ?_ | refine .k2 ?_ | refine .k6 ?_ | refine .k8 ?_ | refine .k9 ?_ | (refine .cd ?_ ?_ <;> (intro hc; first | exact kt hc (by assumption) | skip)) | refine .r1 ?_ ?_ | refine .an rfl (by intro hob; first | exact versions0_ok | fail) ?_ ?_ | refine .r8 ?_ ?_ | fail)
  try any_goals ((intro hob; fail))
  all_goals (try simp only [BL] at *)
  · exfalso; revert hc; decide
  refine WK_loop (fun n rg σ' => σ' = (1, b, Blk.cells [nilV, nilV, nilV, nilV]) :: σ ∧ rg = [(1, .lp 1 b 0), (66, nilV), (67, iv (0 : Nat)), (68, iv 0)]) 0 rfl ⟨_, _, by repeat' first | exact .refl _ | fail, by repeat' first | exact .refl _ | fail, rfl, rfl⟩ ?_
  rintro n _ _ ⟨rfl, rfl⟩
  repeat' (first | exact .nil | refine .k0 ?_ | refine .k1 ?_ | refine .k2 ?_ | refine .k6 ?_ | refine .k7 ?_ | refine .k8 ?_ | refine .k9 ?_ | (refine .cd ?_ ?_ <;> (intro hc; first | exact kt hc (by assumption) | skip)) | refine .r1 ?_ ?_ | (refine .m2 ?_ ?_; intro hlen) | refine .an rfl (by intro hob; first | exact versions0_ok | exact cycle0_ok) ?_ ?_ | fail)
  try any_goals ((intro hob; fail))
  all_goals (try simp only [BL] at *)
  · exfalso; revert hc; decide
  all_goals (show Sx.Fin _ _ _ _; (refine Sx.Fin.wk (by repeat' first | exact .refl _ | refine .cons ?_) ?_; repeat' first | exact .refl _ | fail))
end Go.Proofs.YtekngilbecjkhaaGreatDoor
