import Derived.Test.YtmemninechdogaaGreatDoorSxExA
import Derived.Test.YtmemninechdogaaGreatDoorGi
set_option linter.all false
set_option maxRecDepth 100000
set_option maxHeartbeats 4000000
namespace Go.Proofs.YtmemninechdogaaGreatDoor
open _root_.Go.Proofs.Tryz
open Go.Sx Go.Proofs
theorem aaW(n e:Value)(w:World):CallsD prog 148 #[n,e] .returning w fun e u' w'=>e= .returned (.tuple #[])/\u'= .returning/\w'=w:=by
 refine callsD_of_wpS func148 rfl fun G4 cs hu=>?_;have hq:∀w,(binOp .neq 20 .nilIface .nilIface).run prog w= .ok (.bool false) w:=fun w=>by rfl
 apply wpS_seq;apply wpS_region;simp[wpOpsS,go_sem,recoverD,hu,ntmps148,Exit.thenS];apply wpS_seq;apply wpS_region;simp[wpOpsS,go_sem,Exit.thenS,hq];refine wpS_cond (t:=false) (by simp[Act.eval,Array.replicate]) ?_;simp only[ZT,YU];refine wpS_of_wp (wp_skip ?_);cases G4;simp_all [bodyPostS,results,Tryz.results148]
theorem P0[g:Glob prog](n e:Value):Idle prog [{target:=.fn (.func 148) #[],args:= #[n,e]}]:=by intro fn tmps K M w0 q w hI h;refine leaves_cons (f:=148) (args:= #[n,e]) (by simp) (by simp[go_sem]) ?_;refine(aaW n e w).mono ?_;rintro e u' BQ ⟨rfl,rfl,rfl⟩;simp only[settle,Leaves];exact h _ hI
def QS{P:Program}[Glob P]{f:FuncId}{fn:Func}{N:Nat}{a:AC}{res:List RC}(hf:P.funcs[f]? =some fn)(h:∀ds,(@uW P (dS P ds) fn).map qS=some (N,a,res):=by intro ds;conv=>{lhs;reduce;simp(maxSteps:=10000000)only[yn,UInt8.reduceOfNat,Int.reduceOfNat,Int.reduceNegSucc,ym]}):B5 P f N a res:=⟨Mv hf h⟩
def d100:=QS func100
def d97:=QS func97
theorem ab3:qK prog f100:=qK.of rfl rfl fun cs w=>⟨[{target:=.fn (.func 148) #[],args:= #[.pointer (some ⟨w.heap.size,0,none⟩),.pointer (some ⟨w.heap.size+1,0,none⟩)]}],fun T post h=>by
 simp only[mj,iK]at h;simp[Fi,wpOps,Oper.wp,go_sem]at h;refine wp_seq (wp_region ?_);simp[wpOps,Oper.wp,go_sem];refine h.imp (fun h=>h.imp (fun h=>h.imp (fun h=>?_) sV) sV) sV;simp[iK,wpOps,Oper.wp,go_sem]at h;refine wp_seq (wp_region ?_);simp[wpOps,Oper.wp,go_sem];have h5:5<cs.length+(19-cs.length):=by omega
 have h6:6<cs.length+(19-cs.length):=by omega
 simp only[h5,h6,YK];rcases h with h|⟨h,_⟩
 .exact .inl h
 .exact absurd (show _∈(#[]:Array _)from h.1) (by simp),P0 _ _⟩
theorem ab2:qK prog f97:=qK.of rfl rfl fun cs w=>⟨[{target:=.fn (.func 148) #[],args:= #[.pointer (some ⟨w.heap.size,0,none⟩),.pointer (some ⟨w.heap.size+1,0,none⟩)]}],fun T post h=>by
 simp only[mj,iK]at h;simp[Fi,wpOps,Oper.wp,go_sem]at h;refine wp_seq (wp_region ?_);simp[wpOps,Oper.wp,go_sem];refine h.imp (fun h=>h.imp (fun h=>h.imp (fun h=>?_) sV) sV) sV;simp[iK,wpOps,Oper.wp,go_sem]at h;refine wp_seq (wp_region ?_);simp[wpOps,Oper.wp,go_sem];have h5:5<cs.length+(22-cs.length):=by omega
 have h6:6<cs.length+(22-cs.length):=by omega
 simp only[h5,h6,YK];rcases h with h|⟨h,_⟩
 .exact .inl h
 .exact absurd (show _∈(#[]:Array _)from h.1) (by simp),P0 _ _⟩
theorem ae0(bb:Nat)(w:World):CallsD prog 213 #[.pointer (some ⟨bb,0,none⟩)] .returning w fun e u' w'=>e= .returned (.tuple #[])/\u'= .returning/\w'=w.alloc (.cells #[.int .i64 0,.int .i64 0] 290):=by
 refine callsD_of_wpS func213 rfl fun G4 cs hu=>?_;have ha:∀w,(Instr.typeAssert Value.nilIface 20 290 true).run prog w= .ok (.tuple #[.agg #[.int .i64 0,.int .i64 0],.bool false]) w:=fun w=>by rfl
 apply wpS_seq;apply wpS_region;simp[wpOpsS,ha,go_sem,recoverD,hu,ntmps213,Exit.thenS];apply wpS_seq;apply wpS_region;simp[wpOpsS,go_sem,Exit.thenS];refine wpS_cond (t:=false) (by simp[Act.eval,Array.replicate]) ?_;simp only[ZT,YU];refine wpS_of_wp (wp_skip ?_);cases G4;simp_all [bodyPostS,results,Tryz.results213]
theorem aen[g:Glob prog](bb:Nat):Idle prog [{target:=.fn (.func 213) #[.pointer (some ⟨bb,0,none⟩)],args:= #[]}]:=by intro fn tmps K M w0 q w hI h;refine leaves_cons (f:=213) (args:= #[.pointer (some ⟨bb,0,none⟩)]) (by simp) (by simp[go_sem]) ?_;refine(ae0 bb w).mono ?_;rintro e u' BQ ⟨rfl,rfl,rfl⟩;simp only[settle,Leaves];exact h _ (hI.alloc _)
def d153:=kd func153
theorem ab1:qK prog f153:=qK.of rfl rfl fun cs w=>⟨[{target:=.fn (.func 213) #[.pointer (some ⟨w.heap.size,0,none⟩)],args:= #[]}],fun T post h=>by
 have x9:∀(fn:Fn) (first cap:Array Value) (w:World),(Instr.makeFunc fn first cap).run prog w= .ok (.func fn first cap) w:=fun _ _ _ _=>rfl;simp only[mj,iK]at h;simp[Fi,wpOps,Oper.wp,go_sem]at h;refine wp_seq (wp_region ?_);simp[wpOps,Oper.wp,go_sem];refine h.imp (fun h=>?_) sV;simp[iK,wpOps,Oper.wp,go_sem,x9]at h;refine wp_seq (wp_region ?_);simp[wpOps,Oper.wp,go_sem,x9];have h2:2<cs.length+(56-cs.length):=by omega
 have h6:6<cs.length+(56-cs.length):=by omega
 simp only[h2,h6,YK]at h|-;refine h.imp (fun h=>?_) sV;rcases h with h|⟨h,_⟩
 .refine .inl ?_;simp[Oper.upon,go_sem];exact h
 .exact absurd (show _∈(#[]:Array _)from h.1) (by simp),aen _⟩
