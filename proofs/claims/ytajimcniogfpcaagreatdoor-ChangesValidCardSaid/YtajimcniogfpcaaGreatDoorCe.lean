/- catalog.find, Feature, Draft: the first feature with a name. -/
import Derived.Test.YtajimcniogfpcaaGreatDoorSet
import Derived.Test.YtajimcniogfpcaaGreatDoorPn
set_option linter.unusedSimpArgs false
set_option linter.unusedVariables false
set_option maxRecDepth 100000
set_option maxHeartbeats 4000000
namespace Go.Proofs.YtajimcniogfpcaaGreatDoor
open Go.Sx Go.Proofs
theorem Em(p:aj→Bool):∀ (l:List aj) (k:Nat),(l.find? p=none∧firstIdx p l k= -1)∨∃ i:Nat,i<l.length∧firstIdx p l k=((k+i:Nat):Int)∧l.find? p=some (l.getD i default)
 |[],k=> .inl ⟨rfl,rfl⟩
 |x::l,k=>by
  unfold firstIdx
  by_cases h:p x=true
  ·exact .inr ⟨0,by simp,by simp[h],by simp[h]⟩
  ·rcases Em p l (k+1)with⟨h1,h2⟩|⟨i,h1,h2,h3⟩
   ·exact .inl ⟨by simp[h,h1],by simp[h,h2]⟩
   ·exact .inr ⟨i+1,by simpa using h1,by rw[Z5 h,h2];omega,by simp[h,h3]⟩
end Go.Proofs.YtajimcniogfpcaaGreatDoor
