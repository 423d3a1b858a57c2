
/- Words, numbers, units and literals, read back from their texts. -/
import Derived.Test.YtklncofkcfjkeaaGreatDoorPk
set_option linter.unusedSimpArgs false
set_option linter.unusedVariables false
set_option maxRecDepth 100000
namespace Go.Proofs.YtklncofkcfjkeaaGreatDoor
open Go.Sx Go.Proofs
abbrev Bs := List UInt8
def isW (c : UInt8) : Bool := decide (Wch c.toNat)
def wspan : Bs → Bs × Bs
  | [] => ([], [])
  | c :: l => if isW c = true then (c :: (wspan l).1, (wspan l).2) else ([], c :: l)
def upto (q : UInt8) : Bs → Bs × Bs
  | [] => ([], [])
  | c :: l => if c = q then ([], l) else (c :: (upto q l).1, (upto q l).2)
def Stop (s : Bs) : Prop := ∀ c, s.head? = some c → isW c = false
theorem wspan_stop {s : Bs} (h : Stop s) : wspan s = ([], s) := by
  cases s with
  | nil => rfl
  | cons c s => rw [wspan, if_neg (by rw [h c rfl]; decide)]
theorem wspan_app {s : Bs} (h : Stop s) : ∀ {w : Bs}, (∀ c ∈ w, isW c = true) → wspan (w ++ s) = (w, s)
  | [], _ => wspan_stop h
  | c :: w, hw => by
    have := wspan_app h (w := w) fun d hd => hw d (by simp [hd])
    rw [List.cons_append, wspan, if_pos (hw c (by simp)), this]
theorem upto_app {q : UInt8} {s : Bs} : ∀ {w : Bs}, q ∉ w → upto q (w ++ q :: s) = (w, s)
  | [], _ => by rw [List.nil_append, upto, if_pos rfl]
  | c :: w, hw => by
    have := upto_app (s := s) (w := w) fun h => hw (List.mem_cons_of_mem _ h)
    rw [List.cons_append, upto, if_neg (fun e => hw (by rw [e]; exact List.mem_cons_self)), this]
theorem sep_inj {q : UInt8} {a b r t : Bs} (ha : q ∉ a) (hb : q ∉ b) (h : a ++ q :: r = b ++ q :: t) : a = b ∧ r = t := by
  have h1 := upto_app (s := r) ha
  rw [h, upto_app hb] at h1
  exact ⟨(Prod.mk.inj h1).1.symm, (Prod.mk.inj h1).2.symm⟩
theorem stop_cons {c : UInt8} {s : Bs} (h : isW c = false) : Stop (c :: s) := fun d hd => by cases hd; exact h
theorem stop_nil : Stop [] := fun d hd => by cases hd

/-- Numbers. -/
def num (l : Bs) : Nat := l.foldl (fun a c => a * 10 + (c.toNat - 48)) 0
theorem num_snoc (l : Bs) (c : UInt8) : num (l ++ [c]) = num l * 10 + (c.toNat - 48) := by simp [num]
theorem dig_nat {d : Nat} (h : d < 10) : (UInt8.ofNat (48 + d)).toNat = 48 + d := by
  rw [UInt8.toNat_ofNat']; omega
theorem num_dd (n : Nat) : num (Lib.decDigits n) = n := by
  induction n using Nat.strongRecOn with
  | _ n ih =>
    by_cases h : n < 10
    · rw [dd_small h]; show num ([] ++ [_]) = _; rw [num_snoc, dig_nat h]; show 0 * 10 + _ = _; omega
    · rw [dd_big h, num_snoc, ih _ (by omega), dig_nat (by omega)]; omega
theorem num_low (l : Bs) : ∀ (k x : Nat), num (l ++ lowD k x) = num l * 10 ^ k + x % 10 ^ k
  | 0, x => by simp [lowD, Nat.mod_one]
  | k + 1, x => by
    rw [lowD, ← List.append_assoc, num_snoc, num_low l k (x / 10), dig_nat (by omega)]
    have h1 : x % 10 ^ (k + 1) = x % 10 + 10 * (x / 10 % 10 ^ k) := by rw [Nat.pow_succ, Nat.mul_comm (10 ^ k), Nat.mod_mul]
    rw [h1, Nat.pow_succ, Nat.add_mul, Nat.mul_assoc]
    omega
theorem num_dec (x : Nat) : num (Lib.decDigits (x / 10 ^ 6) ++ lowD 6 x) = x := by
  rw [num_low, num_dd]; exact Nat.div_add_mod' x (10 ^ 6)
theorem dd_dig (n : Nat) : ∀ c ∈ Lib.decDigits n, Dig c.toNat := by
  induction n using Nat.strongRecOn with
  | _ n ih =>
    by_cases h : n < 10
    · rw [dd_small h]; intro c hc; rw [List.mem_singleton.1 hc, dig_nat h]; unfold Dig; omega
    · rw [dd_big h]; intro c hc
      rcases List.mem_append.1 hc with hc | hc
      · exact ih _ (by omega) c hc
      · rw [List.mem_singleton.1 hc, dig_nat (by omega)]; unfold Dig; omega
theorem low_dig : ∀ (k x : Nat), ∀ c ∈ lowD k x, Dig c.toNat
  | 0, x, c, hc => by cases hc
  | k + 1, x, c, hc => by
    rw [lowD] at hc
    rcases List.mem_append.1 hc with hc | hc
    · exact low_dig k _ c hc
    · rw [List.mem_singleton.1 hc, dig_nat (by omega)]; unfold Dig; omega
theorem dig_w {c : UInt8} (h : Dig c.toNat) : isW c = true := decide_eq_true (.inr (.inl h))
theorem dd_ne (n : Nat) : ∃ c l, Lib.decDigits n = c :: l ∧ Dig c.toNat := by
  have h := dd_pos n
  have h2 := dd_dig n
  match e : Lib.decDigits n, h, h2 with
  | c :: l, _, h2 => exact ⟨c, l, rfl, h2 c (by simp)⟩
theorem dd_inj {n m : Nat} (h : Lib.decDigits n = Lib.decDigits m) : n = m := by rw [← num_dd n, h, num_dd]
theorem itoa_inj {n m : Int} (h : itoaS n = itoaS m) : n = m := by
  have h1 : Lib.itoa n = Lib.itoa m := by
    have := congrArg (·.data.toList) h
    simpa [itoaS] using this
  have key : ∀ a : Nat, ∀ b : Nat, 1 ≤ b → Lib.itoa (a : Int) ≠ Lib.itoa (-(b : Int)) := by
    intro a b hb e
    rw [Lib.itoa_nonneg, Lib.itoa_neg b hb] at e
    obtain ⟨c, l, hc, hd⟩ := dd_ne a
    rw [hc] at e
    have : c = 45 := (List.cons.inj e).1
    rw [this] at hd; unfold Dig at hd; exact absurd hd (by decide)
  rcases Int.lt_or_le n 0 with hn | hn <;> rcases Int.lt_or_le m 0 with hm | hm
  · obtain ⟨a, rfl⟩ : ∃ a : Nat, n = -(a : Int) := ⟨n.natAbs, by omega⟩
    obtain ⟨b, rfl⟩ : ∃ b : Nat, m = -(b : Int) := ⟨m.natAbs, by omega⟩
    rw [Lib.itoa_neg a (by omega), Lib.itoa_neg b (by omega)] at h1
    rw [dd_inj (List.cons.inj h1).2]
  · obtain ⟨a, rfl⟩ : ∃ a : Nat, n = -(a : Int) := ⟨n.natAbs, by omega⟩
    obtain ⟨b, rfl⟩ : ∃ b : Nat, m = (b : Int) := ⟨m.natAbs, by omega⟩
    exact absurd h1.symm (key b a (by omega))
  · obtain ⟨a, rfl⟩ : ∃ a : Nat, n = (a : Int) := ⟨n.natAbs, by omega⟩
    obtain ⟨b, rfl⟩ : ∃ b : Nat, m = -(b : Int) := ⟨m.natAbs, by omega⟩
    exact absurd h1 (key a b (by omega))
  · obtain ⟨a, rfl⟩ : ∃ a : Nat, n = (a : Int) := ⟨n.natAbs, by omega⟩
    obtain ⟨b, rfl⟩ : ∃ b : Nat, m = (b : Int) := ⟨m.natAbs, by omega⟩
    rw [Lib.itoa_nonneg, Lib.itoa_nonneg] at h1
    rw [dd_inj h1]

/-- Names. -/
theorem word_w {s : Str} (h : Word s) : ∀ c ∈ s.data.toList, isW c = true := fun c hc => by
  obtain ⟨i, hi, rfl⟩ := List.mem_iff_getElem.1 hc
  have := h.2.2.2 i hi
  unfold byteAt at this
  rw [List.getD_eq_getElem?_getD, List.getElem?_eq_getElem hi] at this
  exact decide_eq_true this
theorem word_head {s : Str} (h : Word s) : ∃ c l, s.data.toList = c :: l ∧ Low c.toNat := by
  have h1 := h.1
  have h2 := h.2.2.1
  unfold byteAt at h2
  rw [str_size] at h1
  match e : s.data.toList, h1 with
  | c :: l, _ => rw [e] at h2; exact ⟨c, l, rfl, h2⟩
theorem w_ne {c q : UInt8} (h : isW c = true) (hq : isW q = false) : c ≠ q := fun e => by rw [e, hq] at h; cases h
theorem notin_w {w : Bs} {q : UInt8} (h : ∀ c ∈ w, isW c = true) (hq : isW q = false) : q ∉ w := fun hm => w_ne (h q hm) hq rfl

/-- Units. -/
def facL (f : Fac) : Bs := (facS f).data.toList
theorem facL_eq (f : Fac) : facL f = f.name.data.toList ++ (if f.exp = 1 then [] else 94 :: (itoaS f.exp).data.toList) := by
  unfold facL facS
  split <;> simp
theorem fac_inj {f g : Fac} (hf : Word f.name) (hg : Word g.name) (h : facL f = facL g) : f = g := by
  rw [facL_eq, facL_eq] at h
  have s1 : ∀ h : Fac, Stop (if h.exp = 1 then [] else 94 :: (itoaS h.exp).data.toList) := fun h => by
    split
    · exact stop_nil
    · exact stop_cons (by decide)
  have h1 := wspan_app (s1 f) (word_w hf)
  rw [h, wspan_app (s1 g) (word_w hg)] at h1
  obtain ⟨h2, h3⟩ := Prod.mk.inj h1
  have hn : g.name = f.name := str_ext h2
  have he : f.exp = g.exp := by
    by_cases a : f.exp = 1 <;> by_cases b : g.exp = 1
    · rw [a, b]
    · rw [if_pos a, if_neg b] at h3; cases h3
    · rw [if_neg a, if_pos b] at h3; cases h3
    · rw [if_neg a, if_neg b] at h3
      exact (itoa_inj (str_ext (List.cons.inj h3).2)).symm
  cases f; cases g; simp_all
theorem itoa_chars (n : Int) : ∀ c ∈ (itoaS n).data.toList, Dig c.toNat ∨ c = 45 := fun c hc => by
  have hc : c ∈ Lib.itoa n := by simpa [itoaS] using hc
  rcases Int.lt_or_le n 0 with hn | hn
  · obtain ⟨a, rfl⟩ : ∃ a : Nat, n = -(a : Int) := ⟨n.natAbs, by omega⟩
    rw [Lib.itoa_neg a (by omega)] at hc
    rcases List.mem_cons.1 hc with rfl | hc
    · exact .inr rfl
    · exact .inl (dd_dig _ c hc)
  · obtain ⟨a, rfl⟩ : ∃ a : Nat, n = (a : Int) := ⟨n.natAbs, by omega⟩
    rw [Lib.itoa_nonneg] at hc
    exact .inl (dd_dig _ c hc)
theorem fac_chars {f : Fac} (hf : Word f.name) {q : UInt8} (h1 : isW q = false) (h2 : q ≠ 94) (h3 : q ≠ 45) : q ∉ facL f := fun hm => by
  rw [facL_eq] at hm
  rcases List.mem_append.1 hm with hm | hm
  · exact notin_w (word_w hf) h1 hm
  · split at hm
    · cases hm
    · rcases List.mem_cons.1 hm with e | hm
      · exact h2 e
      · rcases itoa_chars _ _ hm with h | h
        · rw [dig_w h] at h1; cases h1
        · exact h3 h
def unitL : List Fac → Bs
  | [] => []
  | [f] => facL f
  | f :: g :: l => facL f ++ 42 :: unitL (g :: l)
theorem unitL_eq : ∀ u : List Fac, (unitS u).data.toList = unitL u
  | [] => rfl
  | [f] => by rw [unitS_list]; simp [List.intercalate, unitL, facL]
  | f :: g :: l => by
    have := unitL_eq (g :: l)
    rw [unitS_list] at this ⊢
    rw [unitL, ← this]
    simp [List.intercalate, facL]
theorem unit_inj : ∀ {u v : List Fac}, (∀ f ∈ u, Word f.name) → (∀ f ∈ v, Word f.name) → u ≠ [] → v ≠ [] → unitL u = unitL v → u = v
  | [], _, _, _, h, _, _ => absurd rfl h
  | _, [], _, _, _, h, _ => absurd rfl h
  | [f], [g], hf, hg, _, _, h => by rw [fac_inj (hf f (by simp)) (hg g (by simp)) h]
  | [f], g :: k :: v, hf, hg, _, _, h => by
    have : (42 : UInt8) ∉ facL f := fac_chars (hf f (by simp)) (by decide) (by decide) (by decide)
    exact absurd (by rw [show facL f = _ from h, unitL]; simp) this
  | f :: k :: u, [g], hf, hg, _, _, h => by
    have : (42 : UInt8) ∉ facL g := fac_chars (hg g (by simp)) (by decide) (by decide) (by decide)
    exact absurd (by rw [show facL g = _ from h.symm, unitL]; simp) this
  | f :: k :: u, g :: j :: v, hf, hg, _, _, h => by
    rw [unitL, unitL] at h
    obtain ⟨h1, h2⟩ := sep_inj (fac_chars (hf f (by simp)) (by decide) (by decide) (by decide)) (fac_chars (hg g (by simp)) (by decide) (by decide) (by decide)) h
    rw [fac_inj (hf f (by simp)) (hg g (by simp)) h1, unit_inj (fun x hx => hf x (by simp [hx])) (fun x hx => hg x (by simp [hx])) (by simp) (by simp) h2]
theorem unit_chars : ∀ {u : List Fac}, (∀ f ∈ u, Word f.name) → (93 : UInt8) ∉ unitL u
  | [], _ => by simp [unitL]
  | [f], h => fac_chars (h f (by simp)) (by decide) (by decide) (by decide)
  | f :: g :: l, h => fun hm => by
    rw [unitL] at hm
    rcases List.mem_append.1 hm with hm | hm
    · exact fac_chars (h f (by simp)) (by decide) (by decide) (by decide) hm
    · rcases List.mem_cons.1 hm with e | hm
      · exact absurd e (by decide)
      · exact unit_chars (u := g :: l) (fun x hx => h x (by simp [hx])) hm
def UOK (u : List Fac) : Prop := u ≠ [] ∧ ∀ f ∈ u, Word f.name
open Classical in
/-- The unit of a text. -/
noncomputable def unitD (l : Bs) : List Fac := if h : ∃ u, UOK u ∧ unitL u = l then h.choose else []
theorem unitD_eq {u : List Fac} (h : UOK u) : unitD (unitL u) = u := by
  have h1 : ∃ v, UOK v ∧ unitL v = unitL u := ⟨u, h, rfl⟩
  unfold unitD
  rw [dif_pos h1]
  obtain ⟨h2, h3⟩ := h1.choose_spec
  exact unit_inj h2.2 h.2 h2.1 h.1 h3
end Go.Proofs.YtklncofkcfjkeaaGreatDoor
