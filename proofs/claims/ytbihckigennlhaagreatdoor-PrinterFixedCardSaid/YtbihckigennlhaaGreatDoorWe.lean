/- item: through the door. -/
import Derived.Test.YtbihckigennlhaaGreatDoorWd
set_option linter.unusedSimpArgs false
set_option linter.unusedVariables false
set_option linter.unusedSectionVars false
set_option maxRecDepth 100000
set_option maxHeartbeats 4000000
namespace Go.Proofs.YtbihckigennlhaaGreatDoor
open Go.Sx Go.Proofs
theorem RZ(ds:List Deferred): @bZ Tryz.prog (py Tryz.prog ds) Tryz.f2802=some BZ:=by kernel_rfl
def yM(bb:Nat)(Q:cU→Store→Prop):Exit→ae→Store→Prop
 | .ret,_,σ'=>∃ t x y bn aw,σ'.Perm aw∧Sub ((t,bb,.cells [iv x,iv y])::bn) aw∧Q (.ret (.agg [iv x,iv y])) bn
 | .panic ch,_,σ'=>∃ p c t x y bn aw,ch=[entry p c false]∧σ'.Perm aw∧Sub ((t,bb,.cells [iv x,iv y])::bn) aw∧Q (.ret (.agg [iv p,iv c])) bn
 |_,_,_=>False
theorem HD{P:Program}[Glob P]{fn:Func}{fc:FC}{c:Code}(h:bZ P fn=some fc)(hb:fn.body=some c):bV P fc.N c=some fc.code:=by
 unfold bZ at h
 rw[hb]at h
 simp only at h
 split at h
 ·rename_i s r hs hr;cases h;exact hs
 ·cases h
theorem Et{M:Mem}(x y:Int):s4 M (.ret (.agg [iv x,iv y])) (.returned (.agg #[.int .i64 x,.int .i64 y])):=R.uL (cs:=[_,_]) (RL.cons (.v _) (RL.cons (.v _) RL.nil))
theorem TW{P:Program}{ops:Array Oper}{l:List Nat}{a a':Act}{w w':World}(h:∀ Q':Exit→Act→World→Prop,Q' .normal a' w'→wpOps P ops Q' l a w){Q:Exit→Act→World→Prop}(hq:Q .normal a' w'):wpOps P ops Q l a w:=h Q hq
end Go.Proofs.YtbihckigennlhaaGreatDoor
