/- item: through the door. -/
import Derived.Test.YtbihckigennlhaaGreatDoorWd
set_option linter.unusedSimpArgs false
set_option linter.unusedVariables false
set_option linter.unusedSectionVars false
set_option maxRecDepth 100000
set_option maxHeartbeats 4000000
namespace Go.Proofs.YtbihckigennlhaaGreatDoor
open Go.Sx Go.Proofs
theorem UN(ds:List Deferred): @cm Tryz.prog (qz Tryz.prog ds) Tryz.f2802=some Dp:=by kernel_rfl
def AG(bb:Nat)(Q:dj→Store→Prop):Exit→ae→Store→Prop
 | .ret,_,σ'=>∃ t x y br ay,σ'.Perm ay∧Sub ((t,bb,.cells [iv x,iv y])::br) ay∧Q (.ret (.agg [iv x,iv y])) br
 | .panic ch,_,σ'=>∃ p c t x y br ay,ch=[entry p c false]∧σ'.Perm ay∧Sub ((t,bb,.cells [iv x,iv y])::br) ay∧Q (.ret (.agg [iv p,iv c])) br
 |_,_,_=>False
theorem Jv{P:Program}[Glob P]{fn:Func}{fc:FC}{c:Code}(h:cm P fn=some fc)(hb:fn.body=some c):b7 P fc.N c=some fc.code:=by
 unfold cm at h
 rw[hb]at h
 simp only at h
 split at h
 ·rename_i s r hs hr;cases h;exact hs
 ·cases h
theorem Gg{M:Mem}(x y:Int):uB M (.ret (.agg [iv x,iv y])) (.returned (.agg #[.int .i64 x,.int .i64 y])):=R.tA (cs:=[_,_]) (RL.cons (.v _) (RL.cons (.v _) RL.nil))
theorem WL{P:Program}{ops:Array Oper}{l:List Nat}{a a':Act}{w w':World}(h:∀ Q':Exit→Act→World→Prop,Q' .normal a' w'→wpOps P ops Q' l a w){Q:Exit→Act→World→Prop}(hq:Q .normal a' w'):wpOps P ops Q l a w:=h Q hq
end Go.Proofs.YtbihckigennlhaaGreatDoor
