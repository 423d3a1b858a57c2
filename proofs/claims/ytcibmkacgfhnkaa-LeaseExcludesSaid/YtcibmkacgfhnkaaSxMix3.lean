/-
  The layer Sx, fifteenth part: the region whose order is open, with new variables and stores.
-/
import Derived.Test.YtcibmkacgfhnkaaSxMix2
namespace Go.Sx
open Go.RowKit

/-- What holds of registers and a store that say the same. -/
def Cl (K : Regs → Store → Prop) (rg : Regs) (σ : Store) : Prop := ∃ rg' σ', (∀ i, lk rg' i = lk rg i) ∧ StEq σ' σ ∧ K rg' σ'
theorem Cl.intro {K : Regs → Store → Prop} {rg : Regs} {σ : Store} (h : K rg σ) : Cl K rg σ := ⟨rg, σ, fun _ => rfl, StEq.refl _, h⟩
theorem Cl.closed (K : Regs → Store → Prop) : Closed (Cl K) := fun _ _ _ _ hr hs ⟨rg', σ', h1, h2, h3⟩ => ⟨rg', σ', fun i => (h1 i).trans (hr i), h2.trans hs, h3⟩

def Pair (ops : Array Oper) (als : List Nat) (a c : CD) : Prop := hasE ops a.ix c.ix = false ∧ (hasE ops c.ix a.ix = true ∨ commD als a c = true)

theorem pairOK_pw {ops : Array Oper} {als : List Nat} : ∀ (l : List CD), pairOK ops als l = true → l.Pairwise (Pair ops als)
  | [], _ => .nil
  | a :: l, h => by
    simp only [pairOK, Bool.and_eq_true, List.all_eq_true, Bool.or_eq_true, Bool.not_eq_true'] at h
    exact .cons (fun c hc => h.1.2 c hc) (pairOK_pw l h.2)

theorem pairOK_self {ops : Array Oper} {als : List Nat} : ∀ (l : List CD), pairOK ops als l = true → ∀ x ∈ l, hasE ops x.ix x.ix = false
  | [], _, x, hx => by cases hx
  | a :: l, h, x, hx => by
    simp only [pairOK, Bool.and_eq_true, Bool.not_eq_true'] at h
    rcases List.mem_cons.1 hx with rfl | hx
    · exact h.1.1
    · exact pairOK_self l h.2 x hx

section
variable {P : Program} {M : Mem} {w0 : World} {σ : Store} {rg : Regs} {cfg : Nat → Nat} {N : Nat} {als : List Nat}

theorem vcM_mono {K K' : Regs → Store → Prop} (hk : ∀ rg σ, K rg σ → K' rg σ) : ∀ (l : List CD) (rg : Regs) (σ : Store), (∀ x ∈ l, oneOK x = true) → vcM P cfg als l K rg σ → vcM P cfg als l K' rg σ
  | [], rg, σ, _, h => hk _ _ h
  | c :: l, rg, σ, ho, h => vcGD_step (ho c (by simp)) h fun y σ2 _ hv => vcM_mono hk l _ σ2 (fun x hx => ho x (by simp [hx])) hv

theorem SW_mreg {l : List CD} {Q : Exit → Regs → Store → Prop} (cfg : Nat → Nat) (h : vcM P cfg als l (Q .normal) rg σ) : SW P N (.mreg als l) Q rg σ := by
  intro c hc M w0 a w hI hR hN hD
  obtain ⟨id, ops, cl, rfl, hcl, hget, hok, hfol⟩ := compC_inv hc
  obtain ⟨hlen, hcomp⟩ := compL_get ops.toList cl hcl
  unfold mixOK at hok
  simp only [Bool.and_eq_true, decide_eq_true_eq] at hok
  obtain ⟨⟨⟨⟨⟨hnd, hll⟩, hcov⟩, hone⟩, hbnd⟩, hpair⟩ := hok
  have hself := pairOK_self l hpair
  have hll := Nat.le_of_ble_eq_true hll
  have hone' : ∀ x ∈ l, oneOK x = true := List.all_eq_true.1 hone
  have hpw := pairOK_pw l hpair
  have hlt : ∀ x ∈ l, x.ix < ops.size := fun x hx => by
    have := (List.getElem?_eq_some_iff.1 (hget x hx)).1
    rw [hlen] at this
    simpa using this
  have hK := Cl.closed (Q .normal)
  have h' := vcM_mono (K' := Cl (Q .normal)) (fun _ _ => Cl.intro) l rg σ hone' h
  refine wp_region_any hfol ?_
  have main : ∀ (fuel : Nat) (L : List CD) (listed : Array Bool) (a : Act) (w : World), listed.size = ops.size → L.length ≤ fuel → L.Sublist l →
      (∀ i, i < ops.size → (listed.getD i true = false ↔ ∃ x ∈ L, x.ix = i)) →
      (∃ M2 rg2 σ2, M.le M2 ∧ Inv M2 w0 σ2 w ∧ RegsOK M2 rg2 a ∧ a.tmps.size = N ∧ a.defers = [] ∧ vcM P cfg als L (Cl (Q .normal)) rg2 σ2) →
      wpAny P .any ops (conc M w0 N Q) fuel listed a w := by
    have fin : ∀ (a : Act) (w : World), (∃ M2 rg2 σ2, M.le M2 ∧ Inv M2 w0 σ2 w ∧ RegsOK M2 rg2 a ∧ a.tmps.size = N ∧ a.defers = [] ∧ vcM P cfg als [] (Cl (Q .normal)) rg2 σ2) → conc M w0 N Q .normal a w := by
      rintro a w ⟨M2, rg2, σ2, g1, g2, g3, g4, g5, rg3, σ3, k1, k2, k3⟩
      exact ⟨M2, rg3, σ3, g1, g2.perm k2.2.symm, fun i => by rw [k1]; exact g3 i, g4, g5, k3⟩
    intro fuel
    induction fuel with
    | zero =>
      intro L listed a w hsz hcnt hsub hL hst
      obtain rfl : L = [] := List.length_eq_zero_iff.1 (by omega)
      refine ⟨?_, fin a w hst⟩
      unfold Region.ready
      rw [List.filter_eq_nil_iff]
      intro i hi
      have hi' : i < ops.size := by simpa using hi
      have : listed.getD i true = true := by
        cases hli : listed.getD i true with
        | true => rfl
        | false => obtain ⟨x, hx, _⟩ := (hL i hi').1 hli; cases hx
      simp [this]
    | succ fuel ih =>
      intro L listed a w hsz hcnt hsub hL hst
      have hbool : ∀ i, i < ops.size → listed.getD i false = listed.getD i true := fun i hi => by
        rw [Array.getD_eq_getD_getElem?, Array.getD_eq_getD_getElem?, Array.getElem?_eq_getElem (by omega)]; rfl
      refine ⟨fun hr => ?_, fun i hi => ?_⟩
      · cases L with
        | nil => exact fin a w hst
        | cons x L =>
          exfalso
          have hx := hsub.subset (List.mem_cons_self)
          have hxl := hlt x hx
          have hpwL := hpw.sublist hsub
          have : x.ix ∈ Region.ready .any ops listed := by
            unfold Region.ready
            rw [List.mem_filter]
            refine ⟨by simpa using hxl, ?_⟩
            have hli : listed.getD x.ix true = false := (hL x.ix hxl).2 ⟨x, by simp, rfl⟩
            simp only [hli, Bool.not_false, Bool.true_and, Array.getElem?_eq_getElem hxl, Option.map_some, Option.getD_some]
            rw [Array.all_eq_true_iff_forall_mem]
            intro e he
            cases hbe : Region.binds .any e with
            | false => rfl
            | true =>
              have hon : e.on < ops.size := by
                have h1 := Array.all_eq_true_iff_forall_mem.1 hbnd _ (Array.getElem_mem hxl)
                have h2 := Array.all_eq_true_iff_forall_mem.1 h1 e he
                simpa [hbe] using h2
              have : listed.getD e.on true = true := by
                cases hle : listed.getD e.on true with
                | true => rfl
                | false =>
                  exfalso
                  obtain ⟨y, hy, hyi⟩ := (hL e.on hon).1 hle
                  have hE : hasE ops x.ix y.ix = true := by
                    unfold hasE
                    rw [Array.getElem?_eq_getElem hxl]
                    simp only [Array.any_eq_true]
                    obtain ⟨m, hm, hme⟩ := Array.mem_iff_getElem.1 he
                    exact ⟨m, hm, by rw [hme, hbe, hyi]; simp⟩
                  rcases List.mem_cons.1 hy with rfl | hy
                  · -- an edge on itself
                    have := (hself y hx)
                    rw [this] at hE; cases hE
                  · have := (List.rel_of_pairwise_cons hpwL hy).1
                    rw [this] at hE; cases hE
              simp [hbool e.on hon, this]
          rw [hr] at this
          cases this
      · unfold Region.ready at hi
        rw [List.mem_filter] at hi
        obtain ⟨hi1, hi2⟩ := hi
        have hio : i < ops.size := by simpa using hi1
        simp only [Bool.and_eq_true, Bool.not_eq_true', Array.getElem?_eq_getElem hio, Option.map_some, Option.getD_some] at hi2
        obtain ⟨hnl, hdeps⟩ := hi2
        obtain ⟨x, hxL, rfl⟩ := (hL i hio).1 hnl
        obtain ⟨A, B, rfl⟩ := List.append_of_mem hxL
        have hx := hsub.subset hxL
        obtain ⟨M2, rg2, σ2, g1, g2, g3, g4, g5, g6⟩ := hst
        have hpwL := hpw.sublist hsub
        have hA : ∀ a ∈ A, commD als a x = true ∧ oneOK a = true := by
          intro b hb
          refine ⟨?_, hone' b (hsub.subset (by simp [hb]))⟩
          have hp := (List.pairwise_append.1 hpwL).2.2 b hb x (by simp)
          rcases hp.2 with hE | hc
          · exfalso
            unfold hasE at hE
            rw [Array.getElem?_eq_getElem hio] at hE
            simp only [Array.any_eq_true, Bool.and_eq_true, beq_iff_eq] at hE
            obtain ⟨m, hm, hbm, hon⟩ := hE
            have := Array.all_eq_true_iff_forall_mem.1 hdeps _ (Array.getElem_mem hm)
            rw [hbm, hon] at this
            have hbl := hlt b (hsub.subset (by simp [hb]))
            rw [hbool _ hbl, (hL b.ix hbl).2 ⟨b, by simp [hb], rfl⟩] at this
            simp at this
          · exact hc
        have hfr := frontD hK (hone' x hx) A B rg2 σ2 hA (fun b hb => hone' b (hsub.subset (by simp [hb]))) g6
        have hq := vcGD_G (E := fun _ _ => False) (hone' x hx) hfr
        have hci : compI P N ops ops[x.ix] = some x.c := by
          have hcl' : x.ix < cl.length := by rw [hlen]; simpa using hio
          have := hcomp x.ix (by simpa using hio) hcl'
          have e := hget x hx
          rw [List.getElem?_eq_getElem hcl'] at e
          have e := Option.some.inj e
          rw [← e]
          simpa using this
        obtain ⟨hdst, hltN⟩ := compI_lt hci
        unfold wpOp
        simp only [Array.getElem?_eq_getElem hio]
        refine guard_sound (E := fun _ _ => False) hci hq g2 g3 ⟨?_, fun _ _ _ _ _ _ h => h.elim⟩
        rintro M3 y σ3 v w' hM hI' hy hv
        have hnd' : ((A ++ x :: B).map (·.ix)).Nodup := hnd.sublist (hsub.map _)
        refine ih (A ++ B) _ _ _ (by simp [hsz]) (by simp at hcnt ⊢; omega) (List.Sublist.trans (List.Sublist.append (List.Sublist.refl A) (List.sublist_cons_self x B)) hsub) (fun j hj => ?_)
          ⟨M3, _, σ3, g1.trans hM, hI', by rw [hdst]; exact (g3.mono hM).put _ (fun t ht => by rw [g4]; exact hltN t (hdst.trans ht)) hy, by rw [Act.size_put]; exact g4, by rw [Act.defers_put]; exact g5, hv⟩
        have hnx : ∀ z ∈ A ++ B, z.ix ≠ x.ix := by
          intro z hz e
          have hp : ((x :: (A ++ B)).map (·.ix)).Nodup := (((List.perm_middle (a := x) (l₁ := A) (l₂ := B)).map (·.ix)).nodup_iff).1 hnd'
          rw [List.map_cons, List.nodup_cons] at hp
          exact hp.1 (by rw [← e]; exact List.mem_map_of_mem hz)
        by_cases hji : x.ix = j
        · subst hji
          have e : (listed.setIfInBounds x.ix true).getD x.ix true = true := by
            rw [Array.getD_eq_getD_getElem?, Array.getElem?_setIfInBounds]; simp [hsz, hio]
          rw [e]
          exact ⟨fun h => (nomatch h), fun ⟨z, hz, e⟩ => absurd e (hnx z hz)⟩
        · have e : (listed.setIfInBounds x.ix true).getD j true = listed.getD j true := by
            rw [Array.getD_eq_getD_getElem?, Array.getElem?_setIfInBounds, if_neg hji, Array.getD_eq_getD_getElem?]
          rw [e, hL j hj]
          constructor
          · rintro ⟨z, hz, rfl⟩
            refine ⟨z, ?_, rfl⟩
            rcases List.mem_append.1 hz with hz | hz
            · exact List.mem_append_left _ hz
            · rcases List.mem_cons.1 hz with rfl | hz
              · exact absurd rfl hji
              · exact List.mem_append_right _ hz
          · rintro ⟨z, hz, rfl⟩
            refine ⟨z, ?_, rfl⟩
            rcases List.mem_append.1 hz with hz | hz
            · exact List.mem_append_left _ hz
            · exact List.mem_append_right _ (List.mem_cons_of_mem _ hz)
  have hcov' : ∀ i, i < ops.size → ∃ x ∈ l, x.ix = i := fun i hi => by
    have := List.all_eq_true.1 hcov i (by simpa using hi)
    obtain ⟨x, hx, e⟩ := List.any_eq_true.1 this
    exact ⟨x, hx, Nat.eq_of_beq_eq_true e⟩
  refine main ops.size l _ a _ (by simp) hll (List.Sublist.refl _) (fun i hi => ?_) ⟨M, rg, σ, Mem.le.refl _, hI.drew', hR, hN, hD, h'⟩
  have e : (Array.replicate ops.size false).getD i true = false := by simp [hi]
  exact ⟨fun _ => hcov' i hi, fun _ => e⟩

/-- Registers and a store that say the same will do. -/
theorem SW_cl {s : SC} {Q : Exit → Regs → Store → Prop} (h : SW P N s (fun e => Cl (Q e)) rg σ) : SW P N s Q rg σ :=
  fun c hc M w0 a w hI hR hN hD => wp_mono (h c hc M w0 a w hI hR hN hD) fun _ _ _ ⟨M2, rg2, σ2, h1, h2, h3, h4, h5, rg3, σ3, k1, k2, k3⟩ =>
    ⟨M2, rg3, σ3, h1, h2.perm k2.2.symm, fun i => by rw [k1]; exact h3 i, h4, h5, k3⟩

def bare (l : List CI) : List CD := l.map fun c => ⟨0, c, []⟩

theorem vcM_chain {K : Regs → Store → Prop} : ∀ (l : List CI) (rg rg0 : Regs), (∀ i, lk rg i = lk rg0 i) → (∀ c ∈ l, c.op.cls ≤ 1) → vcM P cfg [] (bare l) K rg σ →
    Chain P cfg (fun rg' => K rg' σ) l rg0 σ
  | [], rg, rg0, he, _, h => ⟨[], rfl, ⟨rg, h, he⟩, fun i h => absurd h (by simp)⟩
  | c :: l, rg, rg0, he, hc, h => by
    have h1 := hc c (by simp)
    have ho : oneOK ⟨0, c, []⟩ = true := by
      unfold oneOK
      have h2 : Nat.ble c.op.cls 1 = true := Nat.ble_eq_true_of_le h1
      have h3 : Nat.ble c.op.cls 3 = true := Nat.ble_eq_true_of_le (by omega)
      have h4 : Nat.beq c.op.cls 2 = false := by rw [← Bool.not_eq_true, Nat.beq_eq]; omega
      simp only [h2, h3, h4]; rfl
    obtain ⟨x, hx, hv⟩ := det (c := ⟨0, c, []⟩) h1 h
    have hq : QV P cfg c rg σ x := vcGD_G (c := ⟨0, c, []⟩) (E := fun _ _ => False) ho (hv σ (fun _ _ _ _ => rfl) (fun y s => y = x ∧ s = σ) ⟨rfl, rfl⟩)
    obtain ⟨xs, g1, g2, g3⟩ := vcM_chain l _ (putR c.d x rg0) (lk_put_congr he c.d x) (fun c' h' => hc c' (by simp [h'])) hx
    refine ⟨x :: xs, by simp [g1], g2, fun i hi hi' => ?_⟩
    cases i with
    | zero => exact QV_local (fun t _ => he t) hq
    | succ i => simpa [puts] using g3 i (by simpa using hi) (by simpa using hi')

theorem SW_dregM {l : List CI} {Q : Exit → Regs → Store → Prop} (cfg : Nat → Nat) (h : vcM P cfg [] (bare l) (Cl (Q .normal)) rg σ) : SW P N (.dreg l) Q rg σ :=
  SW_cl (SW_chain cfg fun hc => vcM_chain (K := Cl (Q .normal)) l rg rg (fun _ => rfl) hc h)

theorem SW_mregM {l : List CD} {Q : Exit → Regs → Store → Prop} (cfg : Nat → Nat) (h : vcM P cfg als l (Cl (Q .normal)) rg σ) : SW P N (.mreg als l) Q rg σ :=
  SW_cl (SW_mreg (Q := fun e => Cl (Q e)) cfg h)

end
end Go.Sx
