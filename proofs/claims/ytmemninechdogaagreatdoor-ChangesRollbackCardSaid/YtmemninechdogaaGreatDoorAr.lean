import Derived.RangeFuncNested
import Derived.RangeFuncBound
import Derived.Shelf.Abstract
import Derived.Shelf.RegionOpen
import Derived.WalkKit
import Derived.OwnWalkIn
import Derived.LoopNIn
import Derived.LoopIn
import Derived.Test.YtmemninechdogaaGreatDoorAb
set_option linter.all false
set_option maxRecDepth 100000
set_option maxHeartbeats 4000000
namespace Go.Proofs.YtmemninechdogaaGreatDoor
open _root_.Go.Proofs.Tryz
open Go.RowKit Go.Proofs Go.Shelf
attribute [local go_sem] Oper.semAt_some
def bk(len k:Nat):List (Fin len):=(List.finRange len).reverse.take k
theorem aaE{len k:Nat}(h:k<=len):(bk len k).length=k:=by simp[bk,h]
theorem aaF{len k:Nat}(h:k<len):bk len (k+1)=bk len k++[⟨len-1-k,by omega⟩]:=by unfold bk;rw[ZU (by simpa using h),List.getElem_reverse];simp
theorem aaD(len:Nat):bk len len=(List.finRange len).reverse:=by unfold bk;rw[ZM (by simp)]
abbrev Le(len:Nat)(cs:Nat->Value)(x:Fin len):Array Value:= #[.int .i64 ((x.val:Nat):Int),.agg #[cs (x.val*4),cs (x.val*4+1),cs (x.val*4+2),cs (x.val*4+3)]]
def uL(jK Bs:Nat)(W W':World):Prop:=Below jK W W'/\∀v,Boxed W Bs 22 v->Boxed W' Bs 22 v
theorem aat(F:Fence)(n:Nat)(h8:F.fn 167)(tJ:F.round=none)(hn:1<=n)(l Bs jK b off len cap:Nat)(cs:Nat->Value)(hl:len<=1000000)(hb:b<jK)(J Jx:List (Fin len)->World->Prop)
  (hY:∀pre x W,J pre W->pre.length<len->YieldAt F (n-1) prog l (Le len cs x) W fun e W'=>(e= .returned (.bool true)/\J (pre++[x]) W'/\uL jK Bs W W')\/(e= .returned (.bool false)/\Jx (pre++[x]) W'))
  (W:World) (xE:Boxed W Bs 22 (.slice (some ⟨b,off,none⟩) len cap)) (hc:∀j,j<len*4->W.cell? ⟨b,off+j,none⟩=some (cs j)) (h0:J [] W):
  CallsIn F n prog 167 #[.func (.yield l) #[] #[],.pointer (some ⟨Bs,0,none⟩)] W fun e W'=>(∃v,e= .returned v)/\
   ((∃ys,ys=(List.finRange len).reverse/\J ys W')\/(∃pre,(∃k,pre=bk len k)/\Jx pre W')):=by
 have hbc:=xE.cell;have AW:wrap64 ((len:Int)-1)=(len:Int)-1:=by unfold wrap64;omega
 refine callsIn_of_wp func167 rfl h8 ?_ tJ;simp only[ntmps167,YB,ZY,ZP,Nat.reduceAdd,Nat.reduceSub,Array.replicate_succ,Array.replicate_zero,List.push_toArray,List.append_toArray,Zf,ZB]
 gi_wp2
 gi_loopw [3] (fun i wr=>∃k:Nat,k<=len/\i= .int .i64 ((len:Int)-1-k)/\J (bk len k) wr/\uL jK Bs W wr)
  (fun i _=>(intOf i+1).toNat)
 case atStart=>exact⟨0,Z4 _,by simp,h0,Below.refl _ _,fun _ h=>h⟩
 case round=>
  obtain⟨k,hk,rfl,Dn,mP,O9⟩:=hrel;have mN:=(O9 _ xE).cell;by_cases az:k<len
  .have gR:∀j,j<len*4->wr.cell? ⟨b,off+j,none⟩=some (cs j):=fun j hj=>(mP.cell (p:=⟨b,off+j,none⟩) hb).trans (hc j hj);obtain⟨j,hj⟩:∃j,j=len-1-k:=⟨_,rfl⟩
   have jF:(len:Int)-1-k=(j:Int):=by omega
   have kM:j<len:=by omega
   have eY:=gR (j*4) (by omega);have bC:=gR (j*4+1) (by omega);have bO:=gR (j*4+2) (by omega);have DA:=gR (j*4+3) (by omega);rw[<-XK]at bC bO DA;obtain⟨fn,tmps,assign,body,hy,hR⟩:=hY _ ⟨j,kM⟩ wr Dn (by rw[aaE hk];exact az)
   dsimp only[Le]at hy
   rw[jF];have tQ:wrap64 ((j:Int)-1)=(j:Int)-1:=by unfold wrap64;omega
   have hjk:j+k+1=len:=by omega
   have IE:=aaF az;rw[show(⟨len-1-k,by omega⟩:Fin len)=⟨j,kM⟩from Fin.ext hj.symm]at IE;clear gR hj
   gi_wp2
   refine hR.mono ?_;rintro e W3 (⟨rfl,hJ3,I8⟩|⟨rfl,adx⟩)
   .gi_wp2
    go_roundw
    case rel=>exact⟨k+1,by omega,by simp only[Value.int.injEq,Yg];omega,by rw[IE];exact hJ3,mP.trans I8.1,fun v h=>I8.2 v (O9 v h)⟩
    case measure=>simp[intOf]
   .gi_wp2
    refine bodyPost_ret (results_none rfl _ _ _) rfl ?_;exact⟨⟨_,rfl⟩,.inr ⟨_,⟨k+1,IE.symm⟩,adx⟩⟩
  .obtain rfl:k=len:=by omega
   have hm:(k:Int)-1-k= -1:=by omega
   rw[hm]
   gi_wp2
   go_end0
   exact⟨⟨_,rfl⟩,.inl ⟨_,rfl,by rw[<-aaD];exact Dn⟩⟩
theorem aas(F:Fence)(n:Nat)(h8:F.fn 167)(tJ:F.round=none)(l Bs cap:Nat)(a:Option Addr)(J:List (Fin 0)->World->Prop)(W:World)(xE:Boxed W Bs 22 (.slice a 0 cap))(h0:J [] W):
  CallsIn F n prog 167 #[.func (.yield l) #[] #[],.pointer (some ⟨Bs,0,none⟩)] W fun e W'=>(∃v,e= .returned v)/\J [] W':=by
 have hbc:=xE.cell;refine callsIn_of_wp func167 rfl h8 ?_ tJ;simp only[ntmps167,YB,ZY,ZP,Nat.reduceAdd,Nat.reduceSub,Array.replicate_succ,Array.replicate_zero,List.push_toArray,List.append_toArray,Zf,ZB]
 gi_wp2
 gi_loopw [3] (fun i wr=>i= .int .i64 (-1)/\J [] wr) (fun _ _=>0)
 case atStart=>exact⟨rfl,h0⟩
 case round=>
  obtain⟨rfl,Dn⟩:=hrel
  gi_wp2
  go_end0
  exact⟨⟨_,rfl⟩,Dn⟩
theorem MB(F:Fence)(n:Nat)(h6:F.fn 123)(tJ:F.round=none)(a:Option Addr)(len cap:Nat)(w:World):
  CallsIn F n prog 123 #[.slice a len cap] w fun e w'=>e= .returned (.func (.func 167) #[] #[.pointer (some ⟨w.heap.size,0,none⟩)])/\w'=w.alloc (.cells #[.slice a len cap] 22):=by
 refine callsIn_of_wp func123 rfl h6 ?_ tJ;simp only[ntmps123,YB,ZY,ZP,Nat.reduceAdd,Nat.reduceSub,Array.replicate_succ,Array.replicate_zero,List.push_toArray,List.append_toArray,Zf,ZB]
 gi_wp2
 go_ret
 exact⟨rfl,rfl⟩
theorem aau(F:Fence)(n:Nat)(h8:F.fn 167)(tJ:F.round=none)(hn:1<=n)(Bs jK len cap:Nat)(a:Option Addr)(cs:Nat->Value)(hl:len<=1000000)(w:World)(hBw:Bs<w.heap.size)(amX:jK<=w.heap.size)(xE:Boxed w Bs 22 (.slice a len cap))
  (hc:len=0\/∃b off,a=some ⟨b,off,none⟩/\b<jK/\∀j,j<len*4->w.cell? ⟨b,off+j,none⟩=some (cs j)):
  SeqStopsK F n prog 167 #[.pointer (some ⟨Bs,0,none⟩)] (Le len cs) (uL jK Bs) (fun ys=>ys=(List.finRange len).reverse) (fun _=>True) len w:=fun l J Jx W hW _ _ hY h0=>by
 have OL:Boxed W Bs 22 (.slice a len cap):=(hW.block _ hBw).trans xE;rcases hc with rfl|⟨b,off,rfl,hb,hc⟩
 .exact(aas F n h8 tJ l Bs cap a J W OL h0).mono fun e W' ⟨he,hj⟩=>⟨he,.inl ⟨_,rfl,hj⟩⟩
 .refine(aat F n h8 tJ hn l Bs jK b off len cap cs hl hb J Jx hY W OL (fun j hj=>(hW.cell (p:=⟨b,off+j,none⟩) (show b<_ by omega)).trans (hc j hj)) h0).mono ?_;rintro e W' ⟨he,⟨ys,rfl,hj⟩|⟨pre,_,hj⟩⟩
  .exact⟨he,.inl ⟨_,rfl,hj⟩⟩
  .exact⟨he,.inr ⟨_,trivial,hj⟩⟩
theorem ahf{jK Bs:Nat}{A B C:World}(h:uL jK Bs A B)(k:uL jK Bs B C):uL jK Bs A C:=⟨h.1.trans k.1,fun v hv=>k.2 v (h.2 v hv)⟩
theorem ahe{jK Bs:Nat}{w:World}(hn:jK<=w.heap.size):∀(W:World) (l:Nat) (o o':Obj),w.heap.size<=l->W.heap[l]? =some o->o.isCells=false->o.isWalk=false->uL jK Bs W (W.putObj l o'):=fun W l o o' h1 h2 h3 h4=>⟨belowK_b hn W l o o' h1 h2 h3 h4,fun v hv=>by
 have aW:l≠Bs:=fun e=>by subst e;rw[show W.heap[l]? =_ from hv]at h2;cases h2;cases h3
 exact(World.putObj_heap_other (fun e=>aW e.symm)).trans hv⟩
