/- Functions that defer: ReadUint, ReadText, item, where nothing panics. -/
import Derived.Test.YthdeaajdmdmfnaaGreatDoorSxExC
import Derived.Test.YthdeaajdmdmfnaaGreatDoorGi
set_option linter.unusedSimpArgs false
set_option linter.unusedVariables false
set_option linter.unusedSectionVars false
set_option maxRecDepth 100000
set_option maxHeartbeats 4000000
namespace Go.Proofs.YthdeaajdmdmfnaaGreatDoor
open _root_.Go.Proofs.Tryz
open Go.Sx Go.Proofs
theorem WM(n e:Value)(w:World):CallsD prog 135 #[n,e] .returning w fun e u' w'=>e= .returned (.tuple #[])∧u'= .returning∧w'=w:=by
 refine callsD_of_wpS func135 rfl fun F9 cs hu=> ?_
 have hq:∀ w,(binOp .neq 20 .nilIface .nilIface).run prog w= .ok (.bool false) w:=fun w=>by rfl
 apply wpS_seq
 apply wpS_region
 simp[wpOpsS,go_sem,recoverD,hu,ntmps135,Exit.thenS]
 apply wpS_seq
 apply wpS_region
 simp[wpOpsS,go_sem,Exit.thenS,hq]
 refine wpS_cond (t:=false) (by simp[Act.eval,Array.replicate]) ?_
 simp only[ZU,YV]
 refine wpS_of_wp (wp_skip ?_)
 cases F9
 simp_all [bodyPostS,results,Tryz.results135]
theorem Pg[g:Glob prog](n e:Value):Idle prog [{target:= .fn (.func 135) #[],args:= #[n,e]}]:=by
 intro fn tmps K M w0 σ w hI h
 refine leaves_cons (f:=135) (args:= #[n,e]) (by simp) (by simp[go_sem]) ?_
 refine(WM n e w).mono ?_
 rintro e u' tS ⟨rfl,rfl,rfl⟩
 simp only[settle,Leaves]
 exact h _ hI
def P4{P:Program}[Glob P]{f:FuncId}{fn:Func}{N:Nat}{a:AC}{res:List RC}(hf:P.funcs[f]? =some fn)(h:∀ ds,(@uh P (dJ P ds) fn).map rM=some (N,a,res):=by intro ds;conv=>{lhs;reduce;simp(maxSteps:=10000000)only[DX,UInt8.reduceOfNat,Int.reduceOfNat,Int.reduceNegSucc,DW]}):BF P f N a res:=⟨LY hf h⟩
def d91:=P4 func91
def d88:=P4 func88
theorem aaC:qa prog f91:=qa.of rfl rfl fun cs w=>⟨[{target:= .fn (.func 135) #[],args:= #[.pointer (some ⟨w.heap.size,0,none⟩),.pointer (some ⟨w.heap.size+1,0,none⟩)]}],fun T post h=>by
 simp only[lz,ib]at h
 simp[EF,wpOps,Oper.wp,go_sem]at h
 refine wp_seq (wp_region ?_)
 simp[wpOps,Oper.wp,go_sem]
 refine h.imp (fun h=>h.imp (fun h=>h.imp (fun h=> ?_) rO) rO) rO
 simp[ib,wpOps,Oper.wp,go_sem]at h
 refine wp_seq (wp_region ?_)
 simp[wpOps,Oper.wp,go_sem]
 have h5:5<cs.length+(19-cs.length):=by omega
 have h6:6<cs.length+(19-cs.length):=by omega
 simp only[h5,h6,YX]
 rcases h with h|⟨h,_⟩
 ·exact .inl h
 ·exact absurd (show _∈(#[]:Array _)from h.1) (by simp),Pg _ _⟩
theorem aaB:qa prog f88:=qa.of rfl rfl fun cs w=>⟨[{target:= .fn (.func 135) #[],args:= #[.pointer (some ⟨w.heap.size,0,none⟩),.pointer (some ⟨w.heap.size+1,0,none⟩)]}],fun T post h=>by
 simp only[lz,ib]at h
 simp[EF,wpOps,Oper.wp,go_sem]at h
 refine wp_seq (wp_region ?_)
 simp[wpOps,Oper.wp,go_sem]
 refine h.imp (fun h=>h.imp (fun h=>h.imp (fun h=> ?_) rO) rO) rO
 simp[ib,wpOps,Oper.wp,go_sem]at h
 refine wp_seq (wp_region ?_)
 simp[wpOps,Oper.wp,go_sem]
 have h5:5<cs.length+(22-cs.length):=by omega
 have h6:6<cs.length+(22-cs.length):=by omega
 simp only[h5,h6,YX]
 rcases h with h|⟨h,_⟩
 ·exact .inl h
 ·exact absurd (show _∈(#[]:Array _)from h.1) (by simp),Pg _ _⟩
theorem adf(bb:Nat)(w:World):CallsD prog 191 #[.pointer (some ⟨bb,0,none⟩)] .returning w fun e u' w'=>e= .returned (.tuple #[])∧u'= .returning∧w'=w.alloc (.cells #[.int .i64 0,.int .i64 0] 271):=by
 refine callsD_of_wpS func191 rfl fun F9 cs hu=> ?_
 have ha:∀ w,(Instr.typeAssert Value.nilIface 20 271 true).run prog w= .ok (.tuple #[.agg #[.int .i64 0,.int .i64 0],.bool false]) w:=fun w=>by rfl
 apply wpS_seq
 apply wpS_region
 simp[wpOpsS,ha,go_sem,recoverD,hu,ntmps191,Exit.thenS]
 apply wpS_seq
 apply wpS_region
 simp[wpOpsS,go_sem,Exit.thenS]
 refine wpS_cond (t:=false) (by simp[Act.eval,Array.replicate]) ?_
 simp only[ZU,YV]
 refine wpS_of_wp (wp_skip ?_)
 cases F9
 simp_all [bodyPostS,results,Tryz.results191]
theorem acK[g:Glob prog](bb:Nat):Idle prog [{target:= .fn (.func 191) #[.pointer (some ⟨bb,0,none⟩)],args:= #[]}]:=by
 intro fn tmps K M w0 σ w hI h
 refine leaves_cons (f:=191) (args:= #[.pointer (some ⟨bb,0,none⟩)]) (by simp) (by simp[go_sem]) ?_
 refine(adf bb w).mono ?_
 rintro e u' tS ⟨rfl,rfl,rfl⟩
 simp only[settle,Leaves]
 exact h _ (hI.alloc _)
def d140:=kd func140
theorem aaA:qa prog f140:=qa.of rfl rfl fun cs w=>⟨[{target:= .fn (.func 191) #[.pointer (some ⟨w.heap.size,0,none⟩)],args:= #[]}],fun T post h=>by
 have xF:∀ (fn:Fn) (first cap:Array Value) (w:World),(Instr.makeFunc fn first cap).run prog w= .ok (.func fn first cap) w:=fun _ _ _ _=>rfl
 simp only[lz,ib]at h
 simp[EF,wpOps,Oper.wp,go_sem]at h
 refine wp_seq (wp_region ?_)
 simp[wpOps,Oper.wp,go_sem]
 refine h.imp (fun h=> ?_) rO
 simp[ib,wpOps,Oper.wp,go_sem,xF]at h
 refine wp_seq (wp_region ?_)
 simp[wpOps,Oper.wp,go_sem,xF]
 have h2:2<cs.length+(56-cs.length):=by omega
 have h6:6<cs.length+(56-cs.length):=by omega
 simp only[h2,h6,YX]at h ⊢
 refine h.imp (fun h=> ?_) rO
 rcases h with h|⟨h,_⟩
 ·refine .inl ?_
  simp[Oper.upon,go_sem]
  exact h
 ·exact absurd (show _∈(#[]:Array _)from h.1) (by simp),acK _⟩
end Go.Proofs.YthdeaajdmdmfnaaGreatDoor
