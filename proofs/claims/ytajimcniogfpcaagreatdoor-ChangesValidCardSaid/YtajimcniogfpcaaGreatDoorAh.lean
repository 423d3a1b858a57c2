/- Functions that defer: ReadUint, ReadText, item, where nothing panics. -/
import Derived.Test.YtajimcniogfpcaaGreatDoorSxExC
import Derived.Test.YtajimcniogfpcaaGreatDoorGi
set_option linter.unusedSimpArgs false
set_option linter.unusedVariables false
set_option linter.unusedSectionVars false
set_option maxRecDepth 100000
set_option maxHeartbeats 4000000
namespace Go.Proofs.YtajimcniogfpcaaGreatDoor
open _root_.Go.Proofs.Tryz
open Go.Sx Go.Proofs
theorem acg(n e:Value)(w:World):CallsD prog 138 #[n,e] .returning w fun e u' w'=>e= .returned (.tuple #[])∧u'= .returning∧w'=w:=by
 refine callsD_of_wpS func138 rfl fun IM cs hu=> ?_
 have hq:∀ w,(binOp .neq 20 .nilIface .nilIface).run prog w= .ok (.bool false) w:=fun w=>by rfl
 apply wpS_seq
 apply wpS_region
 simp[wpOpsS,go_sem,recoverD,hu,ntmps138,Exit.thenS]
 apply wpS_seq
 apply wpS_region
 simp[wpOpsS,go_sem,Exit.thenS,hq]
 refine wpS_cond (t:=false) (by simp[Act.eval,Array.replicate]) ?_
 simp only[ZV,Y8]
 refine wpS_of_wp (wp_skip ?_)
 cases IM
 simp_all [bodyPostS,results,Tryz.results138]
theorem Ro[g:Glob prog](n e:Value):Idle prog [{target:= .fn (.func 138) #[],args:= #[n,e]}]:=by
 intro fn tmps K M w0 σ w hI h
 refine leaves_cons (f:=138) (args:= #[n,e]) (by simp) (by simp[go_sem]) ?_
 refine(acg n e w).mono ?_
 rintro e u' AP ⟨rfl,rfl,rfl⟩
 simp only[settle,Leaves]
 exact h _ hI
def d93:=kd func93
def d90:=kd func90
theorem adb:q8 prog f93:=q8.of rfl rfl fun cs w=>⟨[{target:= .fn (.func 138) #[],args:= #[.pointer (some ⟨w.heap.size,0,none⟩),.pointer (some ⟨w.heap.size+1,0,none⟩)]}],fun T post h=>by
 simp only[mq,jc]at h
 simp[Gn,wpOps,Oper.wp,go_sem]at h
 refine wp_seq (wp_region ?_)
 simp[wpOps,Oper.wp,go_sem]
 refine h.imp (fun h=>h.imp (fun h=>h.imp (fun h=> ?_) tP) tP) tP
 simp[jc,wpOps,Oper.wp,go_sem]at h
 refine wp_seq (wp_region ?_)
 simp[wpOps,Oper.wp,go_sem]
 have h5:5<cs.length+(19-cs.length):=by omega
 have h6:6<cs.length+(19-cs.length):=by omega
 simp only[h5,h6,Y2]
 rcases h with h|⟨h,_⟩
 ·exact .inl h
 ·exact absurd (show _∈(#[]:Array _)from h.1) (by simp),Ro _ _⟩
theorem ada:q8 prog f90:=q8.of rfl rfl fun cs w=>⟨[{target:= .fn (.func 138) #[],args:= #[.pointer (some ⟨w.heap.size,0,none⟩),.pointer (some ⟨w.heap.size+1,0,none⟩)]}],fun T post h=>by
 simp only[mq,jc]at h
 simp[Gn,wpOps,Oper.wp,go_sem]at h
 refine wp_seq (wp_region ?_)
 simp[wpOps,Oper.wp,go_sem]
 refine h.imp (fun h=>h.imp (fun h=>h.imp (fun h=> ?_) tP) tP) tP
 simp[jc,wpOps,Oper.wp,go_sem]at h
 refine wp_seq (wp_region ?_)
 simp[wpOps,Oper.wp,go_sem]
 have h5:5<cs.length+(22-cs.length):=by omega
 have h6:6<cs.length+(22-cs.length):=by omega
 simp only[h5,h6,Y2]
 rcases h with h|⟨h,_⟩
 ·exact .inl h
 ·exact absurd (show _∈(#[]:Array _)from h.1) (by simp),Ro _ _⟩
theorem afD(bb:Nat)(w:World):CallsD prog 187 #[.pointer (some ⟨bb,0,none⟩)] .returning w fun e u' w'=>e= .returned (.tuple #[])∧u'= .returning∧w'=w.alloc (.cells #[.int .i64 0,.int .i64 0] 265):=by
 refine callsD_of_wpS func187 rfl fun IM cs hu=> ?_
 have ha:∀ w,(Instr.typeAssert Value.nilIface 20 265 true).run prog w= .ok (.tuple #[.agg #[.int .i64 0,.int .i64 0],.bool false]) w:=fun w=>by rfl
 apply wpS_seq
 apply wpS_region
 simp[wpOpsS,ha,go_sem,recoverD,hu,ntmps187,Exit.thenS]
 apply wpS_seq
 apply wpS_region
 simp[wpOpsS,go_sem,Exit.thenS]
 refine wpS_cond (t:=false) (by simp[Act.eval,Array.replicate]) ?_
 simp only[ZV,Y8]
 refine wpS_of_wp (wp_skip ?_)
 cases IM
 simp_all [bodyPostS,results,Tryz.results187]
theorem afc[g:Glob prog](bb:Nat):Idle prog [{target:= .fn (.func 187) #[.pointer (some ⟨bb,0,none⟩)],args:= #[]}]:=by
 intro fn tmps K M w0 σ w hI h
 refine leaves_cons (f:=187) (args:= #[.pointer (some ⟨bb,0,none⟩)]) (by simp) (by simp[go_sem]) ?_
 refine(afD bb w).mono ?_
 rintro e u' AP ⟨rfl,rfl,rfl⟩
 simp only[settle,Leaves]
 exact h _ (hI.alloc _)
def d143:=kd func143
theorem ac9:q8 prog f143:=q8.of rfl rfl fun cs w=>⟨[{target:= .fn (.func 187) #[.pointer (some ⟨w.heap.size,0,none⟩)],args:= #[]}],fun T post h=>by
 have zQ:∀ (fn:Fn) (first cap:Array Value) (w:World),(Instr.makeFunc fn first cap).run prog w= .ok (.func fn first cap) w:=fun _ _ _ _=>rfl
 simp only[mq,jc]at h
 simp[Gn,wpOps,Oper.wp,go_sem]at h
 refine wp_seq (wp_region ?_)
 simp[wpOps,Oper.wp,go_sem]
 refine h.imp (fun h=> ?_) tP
 simp[jc,wpOps,Oper.wp,go_sem,zQ]at h
 refine wp_seq (wp_region ?_)
 simp[wpOps,Oper.wp,go_sem,zQ]
 have h2:2<cs.length+(56-cs.length):=by omega
 have h6:6<cs.length+(56-cs.length):=by omega
 simp only[h2,h6,Y2]at h ⊢
 refine h.imp (fun h=> ?_) tP
 rcases h with h|⟨h,_⟩
 ·refine .inl ?_
  simp[Oper.upon,go_sem]
  exact h
 ·exact absurd (show _∈(#[]:Array _)from h.1) (by simp),afc _⟩
end Go.Proofs.YtajimcniogfpcaaGreatDoor
