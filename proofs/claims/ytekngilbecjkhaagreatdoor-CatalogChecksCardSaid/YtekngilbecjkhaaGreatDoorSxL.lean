/-
  From a contract of the library's shelf to a contract of the layer.
-/
import Derived.Test.YtekngilbecjkhaaGreatDoorSxX
import Derived.Below
set_option linter.unusedVariables false
set_option linter.unusedSimpArgs false
set_option linter.unusedSectionVars false
namespace Go.Sx
open Go.RowKit
theorem Inv.after{P:Program}[Glob P]{M:Mem}{w0 w w':World}{σ:Store}(hI:Inv P M w0 σ w)(hb:Below w.heap.size w w'):Inv P M w0 σ w' where
 os:=hb.os.trans hI.os
 tape:=hb.tape.trans hI.tape
 output:=hb.output.trans hI.output
 size:=Nat.le_trans hI.size hb.size
 old:=fun k hk=>(hb.block k (Nat.lt_of_lt_of_le hk hI.size)).trans (hI.old k hk)
 imm:=fun b o v h=>by
  have h1:=hI.imm b o v h
  rw[hb.cell (World.block_lt_of_cell? _ _ h1)];exact h1
 st:=fun e he=>by
  obtain⟨h1,h2⟩:=hI.st e he
  refine⟨h1,?_⟩
  have hlt:∀ {b:Nat} {cs t f},w.heap[b]? =some (.cells cs t f)→w'.heap[b]? =some (.cells cs t f):=fun {b cs t f} h=>by
   rw[hb.block b (Array.getElem?_eq_some_iff.1 h).1];exact h
  cases hx:e.2.2 with
  |cells l=>
   rw[hx]at h2
   obtain⟨a1,cs,t,a2,a3⟩:=h2
   exact⟨a1,cs,t,hlt a2,a3⟩
  |tail u c=>
   rw[hx]at h2
   obtain⟨a1,cs,t,a2,a3⟩:=h2
   exact⟨a1,cs,t,hlt a2,a3⟩
  |map es k=>
   rw[hx]at h2
   obtain⟨a1,l,a2,a3⟩:=h2
   refine⟨a1,l,?_,a3⟩
   rw[hb.block e.2.1 (Array.getElem?_eq_some_iff.1 a2).1];exact a2
 nd:=hI.nd
 gl:=hI.gl
 gw:=hI.gw
theorem Pure.shelf{P:Program}[Glob P]{f:FuncId}{as:List AV}{r:AV}
  (h:∀ (M:Mem) (w0 w:World) (σ:Store) (cs:List Value),Inv P M w0 σ w→RL M as cs→Calls P f cs.toArray w fun e w'=>(∃ v,e= .returned v∧R M r v)∧Below w.heap.size w w'):Pure P f as r:=
 ⟨fun σ M w0 w cs hI hR=>(h M w0 w σ cs hI hR).mono fun e w' ⟨⟨v,he,hv⟩,hb⟩=>⟨M,.ret r,σ,Mem.le.refl _,hI.after hb,by subst he;exact hv,rfl,rfl⟩⟩
end Go.Sx
