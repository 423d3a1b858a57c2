/- The closure that recovers (item, whole). -/
import Derived.Test.YtcccbdelfhgmlaaGreatDoorUe
import Derived.Recover
import Derived.Laws.Pointers
import Derived.Laws.NewBlocks
set_option linter.unusedSimpArgs false
set_option linter.unusedVariables false
set_option linter.unusedSectionVars false
set_option maxRecDepth 100000
set_option maxHeartbeats 4000000
namespace Go.Proofs.YtcccbdelfhgmlaaGreatDoor
open Go.Sx Go.Proofs
def entry(p c:Int)(r:Bool):PanicEntry:={v:=uW p c,recovered:=r}
theorem aba(p c:Int)(w:World):(Instr.typeAssert (Value.iface 92 (.agg #[.int .i64 p,.int .i64 c])) 20 92 true).run Tryz.prog w= .ok (.tuple #[.agg #[.int .i64 p,.int .i64 c],.bool true]) w:=by
 rfl
theorem aa9(w:World):(Instr.typeAssert Value.nilIface 20 92 true).run Tryz.prog w= .ok (.tuple #[.agg #[.int .i64 0,.int .i64 0],.bool false]) w:=by
 rfl
theorem abH(bb:Nat)(x y p c:Int)(w:World)(h0:w.cell? ⟨bb,0,none⟩=some (.int .i64 x))(h1:w.cell? ⟨bb,1,none⟩=some (.int .i64 y))(hz:w.frozen? ⟨bb,0,none⟩=false)(fA:w.frozen? ⟨bb,1,none⟩=false):
  CallsD Tryz.prog 43 #[.pointer (some ⟨bb,0,none⟩)] (.panicking [entry p c false]) w fun e u' w'=>
   e= .returned (.tuple #[])∧u'= .panicking [entry p c true]∧w'=((w.alloc (.cells #[.int .i64 p,.int .i64 c] 92)).setCell ⟨bb,0,none⟩ (.int .i64 p)).setCell ⟨bb,1,none⟩ (.int .i64 c):=by
 refine callsD_of_wpS Tryz.func43 rfl fun Oo cs hu=> ?_
 have ha:=aba p c
 have hb:bb<w.heap.size:=by
  by_cases hb:bb<w.heap.size
  ·exact hb
  ·rw[World.cell?,Array.getElem?_eq_none (show w.heap.size≤bb by omega)]at h0;simp at h0
 have hn:¬bb=w.heap.size:=by omega
 have g0:∀ o,(w.alloc o).cell? ⟨bb,0,none⟩=some (.int .i64 x):=fun o=>by rw[World.cell?_alloc_past _ _ _ hb];exact h0
 have g1:∀ o,(w.alloc o).cell? ⟨bb,1,none⟩=some (.int .i64 y):=fun o=>by rw[World.cell?_alloc_past _ _ _ hb];exact h1
 have z0:∀ o,(w.alloc o).frozen? ⟨bb,0,none⟩=false:=fun o=>by rw[World.frozen?_alloc_old _ _ _ hn];exact hz
 have z1:∀ o,(w.alloc o).frozen? ⟨bb,1,none⟩=false:=fun o=>by rw[World.frozen?_alloc_old _ _ _ hn];exact fA
 apply wpS_seq
 apply wpS_region
 simp[wpOpsS,ha,go_sem,recoverD,hu,Tryz.ntmps43,Exit.thenS,entry,uW]
 apply wpS_seq
 apply wpS_region
 simp[wpOpsS,go_sem,Exit.thenS]
 refine wpS_cond (t:=true) (by simp[Act.eval,Array.replicate]) ?_
 simp only[Y4]
 apply wpS_region
 simp[wpOpsS,go_sem,g0,g1,z0,z1,hn,bodyPostS,results,Tryz.results43]
theorem abG(bb:Nat)(w:World):
  CallsD Tryz.prog 43 #[.pointer (some ⟨bb,0,none⟩)] .returning w fun e u' w'=>
   e= .returned (.tuple #[])∧u'= .returning∧w'=w.alloc (.cells #[.int .i64 0,.int .i64 0] 92):=by
 refine callsD_of_wpS Tryz.func43 rfl fun Oo cs hu=> ?_
 have ha:=aa9
 apply wpS_seq
 apply wpS_region
 simp[wpOpsS,ha,go_sem,recoverD,hu,Tryz.ntmps43,Exit.thenS]
 apply wpS_seq
 apply wpS_region
 simp[wpOpsS,go_sem,Exit.thenS]
 refine wpS_cond (t:=false) (by simp[Act.eval,Array.replicate]) ?_
 simp only[ZM,Zf]
 refine wpS_of_wp (wp_skip ?_)
 cases Oo
 simp_all [bodyPostS,results,Tryz.results43]
end Go.Proofs.YtcccbdelfhgmlaaGreatDoor
