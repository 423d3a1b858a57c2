/- slices.Backward of tables: the iterator. -/
import Derived.RangeFuncNested
import Derived.RangeFuncBound
import Derived.RangeFuncCalls
import Derived.RangeFuncLeaves
import Derived.Shelf.Abstract
import Derived.Shelf.RegionOpen
import Derived.WalkKit
import Derived.OwnWalkIn
import Derived.TacticsInMore
import Derived.LoopNIn
import Derived.LoopIn
import Derived.Test.YthdeaajdmdmfnaaGreatDoorAd
set_option linter.unusedSimpArgs false
set_option linter.unusedVariables false
set_option maxRecDepth 100000
set_option maxHeartbeats 4000000
namespace Go.Proofs.YthdeaajdmdmfnaaGreatDoor
open _root_.Go.Proofs.Tryz
open Go.RowKit Go.Proofs Go.Shelf
attribute [local go_sem] Oper.semAt_some
def bk(len k:Nat):List (Fin len):=(List.finRange len).reverse.take k
theorem Wl{len k:Nat}(h:k≤len):(bk len k).length=k:=by simp[bk,h]
theorem Wm{len k:Nat}(h:k<len):bk len (k+1)=bk len k++[⟨len-1-k,by omega⟩]:=by
 unfold bk
 rw[ZC (by simpa using h),List.getElem_reverse]
 simp
theorem Wj(len:Nat):bk len len=(List.finRange len).reverse:=by
 unfold bk
 rw[Zq (by simp)]
abbrev KD(len:Nat)(cs:Nat→Value)(x:Fin len):Array Value:= #[.int .i64 ((x.val:Nat):Int),.agg #[cs (x.val * 4),cs (x.val * 4+1),cs (x.val * 4+2),cs (x.val * 4+3)]]
def tY(jv Bs:Nat)(W W':World):Prop:=Below jv W W'∧∀ v,Boxed W Bs 22 v→Boxed W' Bs 22 v
theorem Wb(F:Fence)(n:Nat)(h8:F.fn 160)(mW:F.round=none)(hn:1≤n)(l Bs jv b off len cap:Nat)(cs:Nat→Value)(hl:len≤1000000)(hb:b<jv)(J Jx:List (Fin len)→World→Prop)
  (hY:∀ pre x W,J pre W→pre.length<len→YieldAt F (n-1) prog l (KD len cs x) W fun e W'=>(e= .returned (.bool true)∧J (pre++[x]) W'∧tY jv Bs W W')∨(e= .returned (.bool false)∧Jx (pre++[x]) W'))
  (W:World) (xh:Boxed W Bs 22 (.slice (some ⟨b,off,none⟩) len cap)) (hc:∀ j,j<len * 4→W.cell? ⟨b,off+j,none⟩=some (cs j)) (h0:J [] W):
  CallsIn F n prog 160 #[.func (.yield l) #[] #[],.pointer (some ⟨Bs,0,none⟩)] W fun e W'=>(∃ v,e= .returned v)∧
   ((∃ ys,ys=(List.finRange len).reverse∧J ys W')∨(∃ pre,(∃ k,pre=bk len k)∧Jx pre W')):=by
 have hbc:=xh.cell
 have AA:wrap64 ((len:Int)-1)=(len:Int)-1:=by unfold wrap64;omega
 refine callsIn_of_wp func160 rfl h8 ?_ mW
 simp only[ntmps160,Y0,ZS,ZA,Nat.reduceAdd,Nat.reduceSub,Yn,Yo,Ye,Yj,Zl,ZG]
 gi_wp2
 gi_loopw [3] (fun i wr=>∃ k:Nat,k≤len∧i= .int .i64 ((len:Int)-1-k)∧J (bk len k) wr∧tY jv Bs W wr)
  (fun i _=>(intOf i+1).toNat)
 case atStart=>exact⟨0,ZM _,by simp,h0,Below.refl _ _,fun _ h=>h⟩
 case round=>
  obtain⟨k,hk,rfl,CU,kz,Og⟩:=hrel
  have lT:=(Og _ xh).cell
  by_cases aw:k<len
  ·have gq:∀ j,j<len * 4→wr.cell? ⟨b,off+j,none⟩=some (cs j):=fun j hj=>(kz.cell (p:=⟨b,off+j,none⟩) hb).trans (hc j hj)
   obtain⟨j,hj⟩:∃ j,j=len-1-k:=⟨_,rfl⟩
   have il:(len:Int)-1-k=(j:Int):=by omega
   have kr:j<len:=by omega
   have kj:=gq (j * 4) (by omega)
   have bV:=gq (j * 4+1) (by omega)
   have cG:=gq (j * 4+2) (by omega)
   have C3:=gq (j * 4+3) (by omega)
   rw[← Nat.add_assoc]at bV cG C3
   obtain⟨fn,tmps,assign,body,hy,hR⟩:=hY _ ⟨j,kr⟩ wr CU (by rw[Wl hk];exact aw)
   dsimp only[KD]at hy
   rw[il]
   have sQ:wrap64 ((j:Int)-1)=(j:Int)-1:=by unfold wrap64;omega
   have hjk:j+k+1=len:=by omega
   have HV:=Wm aw
   rw[show(⟨len-1-k,by omega⟩:Fin len)=⟨j,kr⟩from Fin.ext hj.symm]at HV
   clear gq hj
   gi_wp2
   refine hR.mono ?_
   rintro e W3 (⟨rfl,hJ3,It⟩|⟨rfl,abN⟩)
   ·gi_wp2
    go_roundw
    case rel=>exact⟨k+1,by omega,by simp only[Value.int.injEq,Ys];omega,by rw[HV];exact hJ3,kz.trans It.1,fun v h=>It.2 v (Og v h)⟩
    case measure=>simp[intOf]
   ·gi_wp2
    refine bodyPost_ret (results_none rfl _ _ _) rfl ?_
    exact⟨⟨_,rfl⟩,.inr ⟨_,⟨k+1,HV.symm⟩,abN⟩⟩
  ·obtain rfl:k=len:=by omega
   have hm:(k:Int)-1-k= -1:=by omega
   rw[hm]
   gi_wp2
   go_end0
   exact⟨⟨_,rfl⟩,.inl ⟨_,rfl,by rw[← Wj];exact CU⟩⟩
theorem Wa(F:Fence)(n:Nat)(h8:F.fn 160)(mW:F.round=none)(l Bs cap:Nat)(a:Option Addr)(J:List (Fin 0)→World→Prop)(W:World)(xh:Boxed W Bs 22 (.slice a 0 cap))(h0:J [] W):
  CallsIn F n prog 160 #[.func (.yield l) #[] #[],.pointer (some ⟨Bs,0,none⟩)] W fun e W'=>(∃ v,e= .returned v)∧J [] W':=by
 have hbc:=xh.cell
 refine callsIn_of_wp func160 rfl h8 ?_ mW
 simp only[ntmps160,Y0,ZS,ZA,Nat.reduceAdd,Nat.reduceSub,Yn,Yo,Ye,Yj,Zl,ZG]
 gi_wp2
 gi_loopw [3] (fun i wr=>i= .int .i64 (-1)∧J [] wr) (fun _ _=>0)
 case atStart=>exact⟨rfl,h0⟩
 case round=>
  obtain⟨rfl,CU⟩:=hrel
  gi_wp2
  go_end0
  exact⟨⟨_,rfl⟩,CU⟩
theorem Mb(F:Fence)(n:Nat)(h6:F.fn 116)(mW:F.round=none)(a:Option Addr)(len cap:Nat)(w:World):
  CallsIn F n prog 116 #[.slice a len cap] w fun e w'=>e= .returned (.func (.func 160) #[] #[.pointer (some ⟨w.heap.size,0,none⟩)])∧w'=w.alloc (.cells #[.slice a len cap] 22):=by
 refine callsIn_of_wp func116 rfl h6 ?_ mW
 simp only[ntmps116,Y0,ZS,ZA,Nat.reduceAdd,Nat.reduceSub,Yn,Yo,Ye,Yj,Zl,ZG]
 gi_wp2
 go_ret
 exact⟨rfl,rfl⟩
theorem Wc(F:Fence)(n:Nat)(h8:F.fn 160)(mW:F.round=none)(hn:1≤n)(Bs jv len cap:Nat)(a:Option Addr)(cs:Nat→Value)(hl:len≤1000000)(w:World)(hBw:Bs<w.heap.size)(akc:jv≤w.heap.size)(xh:Boxed w Bs 22 (.slice a len cap))
  (hc:len=0∨∃ b off,a=some ⟨b,off,none⟩∧b<jv∧∀ j,j<len * 4→w.cell? ⟨b,off+j,none⟩=some (cs j)):
  SeqStopsK F n prog 160 #[.pointer (some ⟨Bs,0,none⟩)] (KD len cs) (tY jv Bs) (fun ys=>ys=(List.finRange len).reverse) (fun _=>True) len w:=fun l J Jx W hW _ _ hY h0=>by
 have NV:Boxed W Bs 22 (.slice a len cap):=(hW.block _ hBw).trans xh
 rcases hc with rfl|⟨b,off,rfl,hb,hc⟩
 ·exact(Wa F n h8 mW l Bs cap a J W NV h0).mono fun e W' ⟨he,hj⟩=>⟨he,.inl ⟨_,rfl,hj⟩⟩
 ·refine(Wb F n h8 mW hn l Bs jv b off len cap cs hl hb J Jx hY W NV (fun j hj=>(hW.cell (p:=⟨b,off+j,none⟩) (show b<_ by omega)).trans (hc j hj)) h0).mono ?_
  rintro e W' ⟨he,⟨ys,rfl,hj⟩|⟨pre,_,hj⟩⟩
  ·exact⟨he,.inl ⟨_,rfl,hj⟩⟩
  ·exact⟨he,.inr ⟨_,trivial,hj⟩⟩
theorem aet{jv Bs:Nat}{A B C:World}(h:tY jv Bs A B)(k:tY jv Bs B C):tY jv Bs A C:=⟨h.1.trans k.1,fun v hv=>k.2 v (h.2 v hv)⟩
theorem aes{jv Bs:Nat}{w:World}(hn:jv≤w.heap.size):∀ (W:World) (l:Nat) (o o':Obj),w.heap.size≤l→W.heap[l]? =some o→o.isCells=false→o.isWalk=false→tY jv Bs W (W.putObj l o'):=fun W l o o' h1 h2 h3 h4=>⟨belowK_b hn W l o o' h1 h2 h3 h4,fun v hv=>by
 have aE:l≠Bs:=fun e=>by subst e;rw[show W.heap[l]? =_ from hv]at h2;cases h2;cases h3
 exact(World.putObj_heap_other (fun e=>aE e.symm)).trans hv⟩
end Go.Proofs.YthdeaajdmdmfnaaGreatDoor
