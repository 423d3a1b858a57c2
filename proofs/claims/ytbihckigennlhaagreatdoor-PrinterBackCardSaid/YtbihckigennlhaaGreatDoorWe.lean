/- item: through the door. -/
import Derived.Test.YtbihckigennlhaaGreatDoorWd
set_option linter.unusedSimpArgs false
set_option linter.unusedVariables false
set_option linter.unusedSectionVars false
set_option maxRecDepth 100000
set_option maxHeartbeats 4000000
namespace Go.Proofs.YtbihckigennlhaaGreatDoor
open Go.Sx Go.Proofs
theorem comp2802D(ds:List Deferred): @compF Tryz.prog (globD Tryz.prog ds) Tryz.f2802=some c2802:=by kernel_rfl
def doorQ(bb:Nat)(Q:Res→Store→Prop):Exit→Regs→Store→Prop
 | .ret,_,σ'=>∃ t x y σ1 σ2,σ'.Perm σ2∧Sub ((t,bb,.cells [iv x,iv y])::σ1) σ2∧Q (.ret (.agg [iv x,iv y])) σ1
 | .panic ch,_,σ'=>∃ p c t x y σ1 σ2,ch=[entry p c false]∧σ'.Perm σ2∧Sub ((t,bb,.cells [iv x,iv y])::σ1) σ2∧Q (.ret (.agg [iv p,iv c])) σ1
 |_,_,_=>False
theorem compF_code{P:Program}[Glob P]{fn:Func}{fc:FC}{c:Code}(h:compF P fn=some fc)(hb:fn.body=some c):compC P fc.N c=some fc.code:=by
 unfold compF at h
 rw[hb]at h
 simp only at h
 split at h
 ·rename_i s r hs hr;cases h;exact hs
 ·cases h
theorem rret_agg{M:Mem}(x y:Int):RRes M (.ret (.agg [iv x,iv y])) (.returned (.agg #[.int .i64 x,.int .i64 y])):=R.mk_agg (cs:=[_,_]) (RL.cons (.v _) (RL.cons (.v _) RL.nil))
theorem gen_ops{P:Program}{ops:Array Oper}{l:List Nat}{a a':Act}{w w':World}(h:∀ Q':Exit→Act→World→Prop,Q' .normal a' w'→wpOps P ops Q' l a w){Q:Exit→Act→World→Prop}(hq:Q .normal a' w'):wpOps P ops Q l a w:=h Q hq
end Go.Proofs.YtbihckigennlhaaGreatDoor
