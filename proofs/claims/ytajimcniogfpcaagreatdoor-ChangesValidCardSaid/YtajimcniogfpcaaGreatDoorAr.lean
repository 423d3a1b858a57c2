/- slices.Backward of tables: the iterator. -/
import Derived.RangeFuncNested
import Derived.RangeFuncBound
import Derived.RangeFuncCalls
import Derived.RangeFuncLeaves
import Derived.Shelf.Abstract
import Derived.Shelf.RegionOpen
import Derived.WalkKit
import Derived.OwnWalkIn
import Derived.TacticsInMore
import Derived.LoopNIn
import Derived.LoopIn
import Derived.Test.YtajimcniogfpcaaGreatDoorAd
set_option linter.unusedSimpArgs false
set_option linter.unusedVariables false
set_option maxRecDepth 100000
set_option maxHeartbeats 4000000
namespace Go.Proofs.YtajimcniogfpcaaGreatDoor
open _root_.Go.Proofs.Tryz
open Go.RowKit Go.Proofs Go.Shelf
attribute [local go_sem] Oper.semAt_some
def bk(len k:Nat):List (Fin len):=(List.finRange len).reverse.take k
theorem ab0{len k:Nat}(h:k≤len):(bk len k).length=k:=by simp[bk,h]
theorem ab1{len k:Nat}(h:k<len):bk len (k+1)=bk len k++[⟨len-1-k,by omega⟩]:=by
 unfold bk
 rw[ZF (by simpa using h),List.getElem_reverse]
 simp
theorem abZ(len:Nat):bk len len=(List.finRange len).reverse:=by
 unfold bk
 rw[Zq (by simp)]
abbrev MG(len:Nat)(cs:Nat→Value)(x:Fin len):Array Value:= #[.int .i64 ((x.val:Nat):Int),.agg #[cs (x.val * 4),cs (x.val * 4+1),cs (x.val * 4+2),cs (x.val * 4+3)]]
def vZ(j4 Bs:Nat)(W W':World):Prop:=Below j4 W W'∧∀ v,Boxed W Bs 22 v→Boxed W' Bs 22 v
theorem abP(F:Fence)(n:Nat)(h8:F.fn 153)(uO:F.round=none)(hn:1≤n)(l Bs j4 b off len cap:Nat)(cs:Nat→Value)(hl:len≤1000000)(hb:b<j4)(J Jx:List (Fin len)→World→Prop)
  (hY:∀ pre x W,J pre W→pre.length<len→YieldAt F (n-1) prog l (MG len cs x) W fun e W'=>(e= .returned (.bool true)∧J (pre++[x]) W'∧vZ j4 Bs W W')∨(e= .returned (.bool false)∧Jx (pre++[x]) W'))
  (W:World) (zr:Boxed W Bs 22 (.slice (some ⟨b,off,none⟩) len cap)) (hc:∀ j,j<len * 4→W.cell? ⟨b,off+j,none⟩=some (cs j)) (h0:J [] W):
  CallsIn F n prog 153 #[.func (.yield l) #[] #[],.pointer (some ⟨Bs,0,none⟩)] W fun e W'=>(∃ v,e= .returned v)∧
   ((∃ ys,ys=(List.finRange len).reverse∧J ys W')∨(∃ pre,(∃ k,pre=bk len k)∧Jx pre W')):=by
 have hbc:=zr.cell
 have xv:wrap64 ((len:Int)-1)=(len:Int)-1:=by unfold wrap64;omega
 refine callsIn_of_wp func153 rfl h8 ?_ uO
 simp only[ntmps153,ZS,Z8,Z0,Nat.reduceAdd,Nat.reduceSub,Array.replicate_succ,Array.replicate_zero,List.push_toArray,List.append_toArray,Zl,ZH]
 gi_wp2
 gi_loopw [3] (fun i wr=>∃ k:Nat,k≤len∧i= .int .i64 ((len:Int)-1-k)∧J (bk len k) wr∧vZ j4 Bs W wr)
  (fun i _=>(intOf i+1).toNat)
 case atStart=>exact⟨0,ZL _,by simp,h0,Below.refl _ _,fun _ h=>h⟩
 case round=>
  obtain⟨k,hk,rfl,EB,kJ,Qu⟩:=hrel
  have mQ:=(Qu _ zr).cell
  by_cases ar:k<len
  ·have iu:∀ j,j<len * 4→wr.cell? ⟨b,off+j,none⟩=some (cs j):=fun j hj=>(kJ.cell (p:=⟨b,off+j,none⟩) hb).trans (hc j hj)
   obtain⟨j,hj⟩:∃ j,j=len-1-k:=⟨_,rfl⟩
   have iV:(len:Int)-1-k=(j:Int):=by omega
   have jD:j<len:=by omega
   have gV:=iu (j * 4) (by omega)
   have cq:=iu (j * 4+1) (by omega)
   have c8:=iu (j * 4+2) (by omega)
   have EO:=iu (j * 4+3) (by omega)
   rw[← XW]at cq c8 EO
   obtain⟨fn,tmps,assign,body,hy,hR⟩:=hY _ ⟨j,jD⟩ wr EB (by rw[ab0 hk];exact ar)
   dsimp only[MG]at hy
   rw[iV]
   have uW:wrap64 ((j:Int)-1)=(j:Int)-1:=by unfold wrap64;omega
   have QI:j+k+1=len:=by omega
   have JW:=ab1 ar
   rw[show(⟨len-1-k,by omega⟩:Fin len)=⟨j,jD⟩from Fin.ext hj.symm]at JW
   clear iu hj
   gi_wp2
   refine hR.mono ?_
   rintro e W3 (⟨rfl,hJ3,Kl⟩|⟨rfl,aer⟩)
   ·gi_wp2
    go_roundw
    case rel=>exact⟨k+1,by omega,by simp only[Value.int.injEq,Yf];omega,by rw[JW];exact hJ3,kJ.trans Kl.1,fun v h=>Kl.2 v (Qu v h)⟩
    case measure=>simp[intOf]
   ·gi_wp2
    refine bodyPost_ret (results_none rfl _ _ _) rfl ?_
    exact⟨⟨_,rfl⟩,.inr ⟨_,⟨k+1,JW.symm⟩,aer⟩⟩
  ·obtain rfl:k=len:=by omega
   have hm:(k:Int)-1-k= -1:=by omega
   rw[hm]
   gi_wp2
   go_end0
   exact⟨⟨_,rfl⟩,.inl ⟨_,rfl,by rw[← abZ];exact EB⟩⟩
theorem abO(F:Fence)(n:Nat)(h8:F.fn 153)(uO:F.round=none)(l Bs cap:Nat)(a:Option Addr)(J:List (Fin 0)→World→Prop)(W:World)(zr:Boxed W Bs 22 (.slice a 0 cap))(h0:J [] W):
  CallsIn F n prog 153 #[.func (.yield l) #[] #[],.pointer (some ⟨Bs,0,none⟩)] W fun e W'=>(∃ v,e= .returned v)∧J [] W':=by
 have hbc:=zr.cell
 refine callsIn_of_wp func153 rfl h8 ?_ uO
 simp only[ntmps153,ZS,Z8,Z0,Nat.reduceAdd,Nat.reduceSub,Array.replicate_succ,Array.replicate_zero,List.push_toArray,List.append_toArray,Zl,ZH]
 gi_wp2
 gi_loopw [3] (fun i wr=>i= .int .i64 (-1)∧J [] wr) (fun _ _=>0)
 case atStart=>exact⟨rfl,h0⟩
 case round=>
  obtain⟨rfl,EB⟩:=hrel
  gi_wp2
  go_end0
  exact⟨⟨_,rfl⟩,EB⟩
theorem N7(F:Fence)(n:Nat)(h6:F.fn 107)(uO:F.round=none)(a:Option Addr)(len cap:Nat)(w:World):
  CallsIn F n prog 107 #[.slice a len cap] w fun e w'=>e= .returned (.func (.func 153) #[] #[.pointer (some ⟨w.heap.size,0,none⟩)])∧w'=w.alloc (.cells #[.slice a len cap] 22):=by
 refine callsIn_of_wp func107 rfl h6 ?_ uO
 simp only[ntmps107,ZS,Z8,Z0,Nat.reduceAdd,Nat.reduceSub,Array.replicate_succ,Array.replicate_zero,List.push_toArray,List.append_toArray,Zl,ZH]
 gi_wp2
 go_ret
 exact⟨rfl,rfl⟩
theorem abQ(F:Fence)(n:Nat)(h8:F.fn 153)(uO:F.round=none)(hn:1≤n)(Bs j4 len cap:Nat)(a:Option Addr)(cs:Nat→Value)(hl:len≤1000000)(w:World)(hBw:Bs<w.heap.size)(an6:j4≤w.heap.size)(zr:Boxed w Bs 22 (.slice a len cap))
  (hc:len=0∨∃ b off,a=some ⟨b,off,none⟩∧b<j4∧∀ j,j<len * 4→w.cell? ⟨b,off+j,none⟩=some (cs j)):
  SeqStopsK F n prog 153 #[.pointer (some ⟨Bs,0,none⟩)] (MG len cs) (vZ j4 Bs) (fun ys=>ys=(List.finRange len).reverse) (fun _=>True) len w:=fun l J Jx W hW _ _ hY h0=>by
 have Qc:Boxed W Bs 22 (.slice a len cap):=(hW.block _ hBw).trans zr
 rcases hc with rfl|⟨b,off,rfl,hb,hc⟩
 ·exact(abO F n h8 uO l Bs cap a J W Qc h0).mono fun e W' ⟨he,hj⟩=>⟨he,.inl ⟨_,rfl,hj⟩⟩
 ·refine(abP F n h8 uO hn l Bs j4 b off len cap cs hl hb J Jx hY W Qc (fun j hj=>(hW.cell (p:=⟨b,off+j,none⟩) (show b<_ by omega)).trans (hc j hj)) h0).mono ?_
  rintro e W' ⟨he,⟨ys,rfl,hj⟩|⟨pre,_,hj⟩⟩
  ·exact⟨he,.inl ⟨_,rfl,hj⟩⟩
  ·exact⟨he,.inr ⟨_,trivial,hj⟩⟩
theorem ag8{j4 Bs:Nat}{A B C:World}(h:vZ j4 Bs A B)(k:vZ j4 Bs B C):vZ j4 Bs A C:=⟨h.1.trans k.1,fun v hv=>k.2 v (h.2 v hv)⟩
theorem ag7{j4 Bs:Nat}{w:World}(hn:j4≤w.heap.size):∀ (W:World) (l:Nat) (o o':Obj),w.heap.size≤l→W.heap[l]? =some o→o.isCells=false→o.isWalk=false→vZ j4 Bs W (W.putObj l o'):=fun W l o o' h1 h2 h3 h4=>⟨belowK_b hn W l o o' h1 h2 h3 h4,fun v hv=>by
 have aH:l≠Bs:=fun e=>by subst e;rw[show W.heap[l]? =_ from hv]at h2;cases h2;cases h3
 exact(World.putObj_heap_other (fun e=>aH e.symm)).trans hv⟩
end Go.Proofs.YtajimcniogfpcaaGreatDoor
