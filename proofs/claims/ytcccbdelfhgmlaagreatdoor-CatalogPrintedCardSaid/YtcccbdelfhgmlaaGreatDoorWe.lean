/- item: through the door. -/
import Derived.Test.YtcccbdelfhgmlaaGreatDoorWd
set_option linter.unusedSimpArgs false
set_option linter.unusedVariables false
set_option linter.unusedSectionVars false
set_option maxRecDepth 100000
set_option maxHeartbeats 4000000
namespace Go.Proofs.YtcccbdelfhgmlaaGreatDoor
open Go.Sx Go.Proofs
theorem ab9(ds:List Deferred): @cK Tryz.prog (sW Tryz.prog ds) Tryz.f2802=some GV:=by kernel_rfl
def Dx(bb:Nat)(Q:dH→Store→Prop):Exit→ag→Store→Prop
 | .ret,_,σ'=>∃ t x y bI az,σ'.Perm az∧Sub ((t,bb,.cells [iv x,iv y])::bI) az∧Q (.ret (.agg [iv x,iv y])) bI
 | .panic ch,_,σ'=>∃ p c t x y bI az,ch=[entry p c false]∧σ'.Perm az∧Sub ((t,bb,.cells [iv x,iv y])::bI) az∧Q (.ret (.agg [iv p,iv c])) bI
 |_,_,_=>False
theorem Om{P:Program}[Glob P]{fn:Func}{fc:FC}{c:Code}(h:cK P fn=some fc)(hb:fn.body=some c):cB P fc.N c=some fc.code:=by
 unfold cK at h
 rw[hb]at h
 simp only at h
 split at h
 ·rename_i s r hs hr;cases h;exact hs
 ·cases h
theorem KI{M:Mem}(x y:Int):uJ M (.ret (.agg [iv x,iv y])) (.returned (.agg #[.int .i64 x,.int .i64 y])):=R.tM (cs:=[_,_]) (RL.cons (.v _) (RL.cons (.v _) RL.nil))
theorem aej{P:Program}{ops:Array Oper}{l:List Nat}{a a':Act}{w w':World}(h:∀ Q':Exit→Act→World→Prop,Q' .normal a' w'→wpOps P ops Q' l a w){Q:Exit→Act→World→Prop}(hq:Q .normal a' w'):wpOps P ops Q l a w:=h Q hq
end Go.Proofs.YtcccbdelfhgmlaaGreatDoor
