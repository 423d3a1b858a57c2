
/- Forms, as the checker looks at them. -/
import Derived.Test.YtklncofkcfjkeaaGreatDoorPf
set_option linter.unusedSimpArgs false
set_option linter.unusedVariables false
set_option maxRecDepth 100000
set_option maxHeartbeats 4000000
namespace Go.Proofs.YtklncofkcfjkeaaGreatDoor
open Go.Sx Go.Proofs
def emEx (x : Ex) : Ex := ⟨x.kind, ⟨#[]⟩, ⟨#[]⟩, ⟨#[]⟩, ⟨0, 0, ⟨#[]⟩⟩, [], 0, ⟨0, 0⟩, []⟩
def litEx' (x : Ex) : Ex := ⟨x.kind, ⟨#[]⟩, x.name, ⟨#[]⟩, x.val, x.unit, 0, ⟨0, 0⟩, []⟩
def aggEx' (x : Ex) : Ex := ⟨x.kind, x.op, ⟨#[]⟩, x.table, ⟨0, 0, ⟨#[]⟩⟩, [], x.param, x.win, []⟩
theorem flat_lit (x : Ex) (h : x.kind = 1) : x.Flat (litEx x) ↔ x.Flat (litEx' x) := by unfold litEx litEx'; rw [h]
theorem flat_agg (x : Ex) (h : x.kind = 5) : x.Flat (aggEx x) ↔ x.Flat (aggEx' x) := by unfold aggEx aggEx'; rw [h]
theorem flat_em (x : Ex) : x.Flat (emEx x) ↔ x.Flat (opEx x) ∧ x.op = ⟨#[]⟩ := by
  show _ ∧ x.op = ⟨#[]⟩ ∧ _ ↔ (_ ∧ x.op = x.op ∧ _) ∧ _
  constructor
  · rintro ⟨h1, h2, h3⟩; exact ⟨⟨h1, rfl, h3⟩, h2⟩
  · rintro ⟨⟨h1, -, h3⟩, h2⟩; exact ⟨h1, h2, h3⟩
theorem q_d : (⟨#[113, 117, 97, 110, 116, 105, 108, 101]⟩ : Str) ≠ ⟨#[100, 101, 99, 97, 121]⟩ := by decide
def FormF (x : Ex) (ins : Bool) : Prop := form ins x = true ↔ (∀ y ∈ x.args, form (ins || decide (x.kind = 5)) y = true) ∧ (x.kind = 5 → x.op = cnt → x.args.getD 0 default = tru)
theorem ff_false {x : Ex} {ins q : Bool} {i : Nat} (hF : FormF x ins) (hq : q = (ins || decide (x.kind = 5))) (hi : i < x.args.length) (hc : form q (x.args.getD i default) = false) : false = true ↔ form ins x = true := by
  unfold FormF at hF
  rw [hF, ← hq]
  constructor
  · intro h; exact Bool.noConfusion h
  · rintro ⟨h, -⟩
    have := h _ (getD_mem hi)
    rw [hc] at this
    exact this
theorem form_lit {q : Bool} {y : Ex} (h : form q y = true) (hf : y.Flat tru) : y = tru := by
  rw [form_iff] at h
  have hk : y.kind = 1 := hf.1
  have hn : nodeN y = 0 := by unfold nodeN; rw [if_neg (by omega), if_neg (by omega), if_neg (by omega)]
  have : y.args = [] := List.eq_nil_of_length_eq_zero (by omega)
  exact Ex.eq_iff.2 ⟨hf, this⟩
theorem ff_all {x : Ex} {q : Bool} {i : Nat} (hi : x.args.length ≤ i) (hp : ∀ j, j < i → form q (x.args.getD j default) = true) : ∀ y ∈ x.args, form q y = true := take_all (p := fun y => form q y = true) fun j hj => hp j (by omega)
theorem ff_end {x : Ex} {ins q : Bool} (hF : FormF x ins) (hq : q = (ins || decide (x.kind = 5))) (hall : ∀ y ∈ x.args, form q y = true) (h0 : 0 < x.args.length) (hc : x.op = ⟨#[99, 111, 117, 110, 116]⟩ ∧ x.kind = 5) : decide ((x.args.getD 0 default).Flat tru) = true ↔ form ins x = true := by
  unfold FormF at hF
  rw [hF, ← hq, decide_eq_true_eq]
  constructor
  · intro h; exact ⟨hall, fun _ _ => form_lit (hall _ (getD_mem h0)) h⟩
  · rintro ⟨-, h⟩; rw [h hc.2 hc.1]; decide
theorem ff_true {x : Ex} {ins q : Bool} (hF : FormF x ins) (hq : q = (ins || decide (x.kind = 5))) (hall : ∀ y ∈ x.args, form q y = true) (hc : ¬ x.op = ⟨#[99, 111, 117, 110, 116]⟩ ∨ ¬ x.kind = 5) : true = true ↔ form ins x = true := by
  unfold FormF at hF
  rw [hF, ← hq]
  refine ⟨fun _ => ⟨hall, fun h1 h2 => ?_⟩, fun _ => rfl⟩
  rcases hc with h | h
  · exact absurd h2 h
  · exact absurd h1 h
theorem proper_ok (x : Ex) : ∀ ins, Pure Tryz.prog 55 [.agg x.row, .v (.bool ins)] (.v (.bool (form ins x))) := by
  induction x using Ex.ind with
  | h x ih =>
  intro ins
  have ih' := ih
  rw [Ex.row_eq x]
  refine Pure.runk (fun _ => 0) Tryz.func55 comp55 era55 (Nat.le_of_ble_eq_true rfl) fun σ => ?_
  repeat' (first | exact .nil | refine .k0 ?_ | refine .k1 ?_ | refine .k2 ?_ | refine .k3 ?_ | refine .k4 ?_ | refine .k5 ?_ | refine .k6 ?_ | refine .k7 ?_ | refine .k8 ?_ | refine .k9 ?_ | (refine .cd ?_ ?_ <;> first | with_reducible exact tF | with_reducible exact fT | (intro hc; first | exact kf hc (by assumption) | exact kt hc (by assumption) | skip)) | refine .r1 ?_ ?_ | (refine .l1 ?_; intro b) | (refine .m1 ?_ ?_; intro b) | (refine .m2 ?_ ?_; intro hlen) | (refine .m3 ?_ ?_; intro hlen) | refine .t1 ?_ ?_ ?_ | refine .t2 ?_ ?_ ?_ | refine .t3 ?_ ?_ ?_ | refine .t4 ?_ ?_ ?_ | (refine .l2 ?_; intro b) | refine .u1 ?_ ?_ ?_ (fun b u c => ?_) | refine .u2 ?_ ?_ ?_ (fun b u c => ?_) | refine .an rfl (by intro hob; first | exact value_ok x.val | exact type_ok ⟨x.val.kind, x.unit, x.name⟩ | exact name_ok _ | exact containsS_ok aggL x.op | exact containsS_ok unL x.op | exact containsS_ok binL x.op | (refine (bare_ok x (litEx' x)).wk ?_; (repeat' first | exact .row | exact .refl _ | exact .nil | refine .cons ?_ ?_ | refine .tup ?_ | refine .agg ?_ | exact .sl | exact .own _); done) | (refine (bare_ok x (namEx x)).wk ?_; (repeat' first | exact .row | exact .refl _ | exact .nil | refine .cons ?_ ?_ | refine .tup ?_ | refine .agg ?_ | exact .sl | exact .own _); done) | (refine (bare_ok x (aggEx' x)).wk ?_; (repeat' first | exact .row | exact .refl _ | exact .nil | refine .cons ?_ ?_ | refine .tup ?_ | refine .agg ?_ | exact .sl | exact .own _); done) | (refine (bare_ok x (opEx x)).wk ?_; (repeat' first | exact .row | exact .refl _ | exact .nil | refine .cons ?_ ?_ | refine .tup ?_ | refine .agg ?_ | exact .sl | exact .own _); done) | (refine (bare_ok x (emEx x)).wk ?_; (repeat' first | exact .row | exact .refl _ | exact .nil | refine .cons ?_ ?_ | refine .tup ?_ | refine .agg ?_ | exact .sl | exact .own _); done) | (refine (bare_ok (x.args.getD 0 default) tru).wk ?_; (repeat' first | exact .row | exact .refl _ | exact .nil | refine .cons ?_ ?_ | refine .tup ?_ | refine .agg ?_ | exact .sl | exact .own _); done) | exact ih' (x.args.getD i default) (getD_mem (by first | omega | (simp only [BL] at *; omega))) _) ?_ ?_ | refine .t5 ?_ ?_ ?_ | refine .t6 ?_ ?_ ?_ | refine .t7 ?_ ?_ ?_ | refine .r2 ?_ ?_ | refine .r3 ?_ ?_ | refine .r4 ?_ ?_ | refine .r5 ?_ ?_ | (refine .l3 ?_; intro b) | refine .r6 ?_ ?_ | refine .r7 ?_ ?_ | refine .r8 ?_ ?_ | refine .r9 ?_ ?_ | refine .ra ?_ ?_ | (show List.all _ _ = true; rfl) | (show (_ : Nat) = _; rfl))
  try any_goals ((intro hob; first | (simp_all; done) | (simp only [BL] at *; first | (simp_all; done) | omega)))
  all_goals (try simp only [BL] at *)
  all_goals first
    | (exfalso; omega)
    | (with_reducible refine Sx.Fin.intro ?_ (bq ?_)
       rotate_left
       rw [form_iff]
       have h1 := flat_lit x
       have h2 := flat_agg x
       have h3 := flat_em x
       have hqd := q_d
       clear ih ih'
       focus grind [nodeB, nodeN, litOK, aggOK, namOK, parOK, winOK]
       repeat' first | exact .refl _ | refine .same ?_ | refine .cons ?_)
    | skip
  all_goals
    have hF : FormF x ins := by
      unfold FormF
      rw [form_iff]
      have h1 := flat_lit x
      have h2 := flat_agg x
      have h3 := flat_em x
      have hqd := q_d
      clear ih ih'
      grind [nodeB, nodeN, litOK, aggOK, namOK, parOK, winOK]
  all_goals have hN : x.kind = 5 → x.args.length = 2 := by intro h; omega
  all_goals refine WK_loop (fun n rg σ' => ∃ (i : Nat) (q : Bool) (b0 b : Nat) (c : List AV), q = (ins || decide (x.kind = 5)) ∧ i ≤ x.args.length ∧ n = x.args.length - i ∧ (∀ j, j < i → form q (x.args.getD j default) = true) ∧ σ' = (5, b, Blk.cells c) :: (2, b0, Blk.cells x.lay) :: σ ∧ rg = [(1, .v (.bool q)), (2, .lp 2 b0 0), (186, .sl false 12 (x.args.map Ex.row)), (187, iv x.args.length), (188, iv i)]) x.args.length rfl ⟨_, _, by repeat' first | exact .row | exact .refl _ | exact .nil | refine .cons ?_ ?_ | refine .tup ?_ | refine .agg ?_ | exact .sl | exact .own _ | exact .tag, by repeat' first | exact .refl _ | refine .same ?_ | refine .cons ?_, 0, _, _, _, _, by simp [*], Nat.zero_le _, rfl, fun j hj => absurd hj (by omega), rfl, rfl⟩ ?_
  all_goals clear hlen
  all_goals rintro n _ _ ⟨i, q, b0, b, c, hq, hi, hn, hp, rfl, rfl⟩
  all_goals clear ih
  repeat' (first | exact .nil | refine .k0 ?_ | refine .k1 ?_ | refine .k2 ?_ | refine .k3 ?_ | refine .k4 ?_ | refine .k5 ?_ | refine .k6 ?_ | refine .k7 ?_ | refine .k8 ?_ | refine .k9 ?_ | (refine .cd ?_ ?_ <;> first | with_reducible exact tF | with_reducible exact fT | (intro hc; first | exact kf hc (by assumption) | exact kt hc (by assumption) | skip)) | refine .r1 ?_ ?_ | (refine .l1 ?_; intro b) | (refine .m1 ?_ ?_; intro b) | (refine .m2 ?_ ?_; intro hlen) | (refine .m3 ?_ ?_; intro hlen) | refine .t1 ?_ ?_ ?_ | refine .t2 ?_ ?_ ?_ | refine .t3 ?_ ?_ ?_ | refine .t4 ?_ ?_ ?_ | (refine .l2 ?_; intro b) | refine .u1 ?_ ?_ ?_ (fun b u c => ?_) | refine .u2 ?_ ?_ ?_ (fun b u c => ?_) | refine .an rfl (by intro hob; first | exact value_ok x.val | exact type_ok ⟨x.val.kind, x.unit, x.name⟩ | exact name_ok _ | exact containsS_ok aggL x.op | exact containsS_ok unL x.op | exact containsS_ok binL x.op | (refine (bare_ok x (litEx' x)).wk ?_; (repeat' first | exact .row | exact .refl _ | exact .nil | refine .cons ?_ ?_ | refine .tup ?_ | refine .agg ?_ | exact .sl | exact .own _); done) | (refine (bare_ok x (namEx x)).wk ?_; (repeat' first | exact .row | exact .refl _ | exact .nil | refine .cons ?_ ?_ | refine .tup ?_ | refine .agg ?_ | exact .sl | exact .own _); done) | (refine (bare_ok x (aggEx' x)).wk ?_; (repeat' first | exact .row | exact .refl _ | exact .nil | refine .cons ?_ ?_ | refine .tup ?_ | refine .agg ?_ | exact .sl | exact .own _); done) | (refine (bare_ok x (opEx x)).wk ?_; (repeat' first | exact .row | exact .refl _ | exact .nil | refine .cons ?_ ?_ | refine .tup ?_ | refine .agg ?_ | exact .sl | exact .own _); done) | (refine (bare_ok x (emEx x)).wk ?_; (repeat' first | exact .row | exact .refl _ | exact .nil | refine .cons ?_ ?_ | refine .tup ?_ | refine .agg ?_ | exact .sl | exact .own _); done) | (refine (bare_ok (x.args.getD 0 default) tru).wk ?_; (repeat' first | exact .row | exact .refl _ | exact .nil | refine .cons ?_ ?_ | refine .tup ?_ | refine .agg ?_ | exact .sl | exact .own _); done) | exact ih' (x.args.getD i default) (getD_mem (by first | omega | (simp only [BL] at *; omega))) _) ?_ ?_ | refine .t5 ?_ ?_ ?_ | refine .t6 ?_ ?_ ?_ | refine .t7 ?_ ?_ ?_ | refine .r2 ?_ ?_ | refine .r3 ?_ ?_ | refine .r4 ?_ ?_ | refine .r5 ?_ ?_ | (refine .l3 ?_; intro b) | refine .r6 ?_ ?_ | refine .r7 ?_ ?_ | refine .r8 ?_ ?_ | refine .r9 ?_ ?_ | refine .ra ?_ ?_ | (show List.all _ _ = true; rfl) | (show (_ : Nat) = _; rfl))
  try any_goals ((intro hob; first | (simp_all; done) | (simp only [BL] at *; first | (simp_all; done) | omega)))
  all_goals (try simp only [BL] at *)
  all_goals first
    | (with_reducible refine Sx.Fin.intro ?_ (bq ?_)
       rotate_left
       focus first
         | exact ff_false hF hq (by omega) hc
         | exact ff_end hF hq (ff_all (by omega) hp) (by omega) hc
         | exact ff_true hF hq (ff_all (by omega) hp) hc
       repeat' first | exact .refl _ | refine .same ?_ | refine .cons ?_)
    | (refine ⟨x.args.length - (i + 1), by omega, _, _, by repeat' first | exact .row | exact .refl _ | exact .nil | refine .cons ?_ ?_ | refine .tup ?_ | refine .agg ?_ | exact .sl | exact .own _ | exact .tag, by repeat' first | exact .refl _ | refine .same ?_ | refine .cons ?_, i + 1, _, _, _, _, hq, by omega, rfl, cons_lt hp hc, rfl, by rw [i64w (by omega)]; rfl⟩)
    | trace_state
end Go.Proofs.YtklncofkcfjkeaaGreatDoor
