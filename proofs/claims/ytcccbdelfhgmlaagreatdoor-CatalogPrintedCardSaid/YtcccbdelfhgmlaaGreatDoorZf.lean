/- bytes.IndexAny of a quote and a line's end: one byte; more than eight; joined. -/
import Derived.Test.YtcccbdelfhgmlaaGreatDoorZb
import Derived.Deep.WholeRow
import Derived.Shelf.Small.Utf8
import Derived.Shelf.Small.Bits
import Derived.Shelf.Small.Strs
import Derived.Shelf.Small.Wraps
import Derived.Shelf.LaysM
import Derived.Shelf.LaysC
import Derived.Shelf.Sort.Plain
import Derived.Shelf.Slices.Turned
import Derived.Shelf.Slices.In.SortNone
import Derived.Shelf.SlicesE.Clone
import Derived.Test.YtcccbdelfhgmlaaGreatDoorSxX
import Derived.Test.YtcccbdelfhgmlaaGreatDoorChecked
import Derived.Maps.OwnSet
import Derived.Maps.OwnOps
import Derived.Maps.RangeWalk
import Derived.Sort.MapsRangeIn
import Derived.Sort.KeysCollected
import Derived.Carry
import Derived.OwnWalk
import Derived.Maps.AppendAt
import Derived.WalkKit
set_option linter.unusedSimpArgs false
set_option linter.unusedVariables false
set_option linter.unusedSectionVars false
set_option maxRecDepth 100000
set_option maxHeartbeats 8000000
namespace Go.Proofs.YtcccbdelfhgmlaaGreatDoor
section
open Go.Sx Go.Proofs Go.RowKit
theorem awE{x:Nat}(h:x<256):(Fz 2)[x]? =some (.v (.bool (gB (UInt8.ofNat x)))):=by
 have key:∀ x:Fin 256,gB (UInt8.ofNat x.val)=decide (x.val=34∨x.val=10):=by decide
 have k2:=key ⟨x,h⟩
 simp only at k2
 rw[k2]
 show((f256.set 34 (.v (.bool true))).set 10 (.v (.bool true)))[x]? =_
 rw[List.getElem?_set,List.getElem?_set]
 have hl:f256.length=256:=rfl
 have h0:f256[x]? =some (.v (.bool false)):=by
  show(List.replicate 256 _)[x]? =_
  rw[List.getElem?_replicate,Z8 h]
 split
 ·rename_i e;subst e
  rw[Z8 (by decide)];simp
 ·split
  ·rename_i e1 e2;subst e2
   rw[Z8 (by decide)];simp
  ·rename_i e1 e2
   rw[h0,Zn (by omega)]
theorem awj{M:Mem}{w0:Base}{w w2:World}{σ:Store}(hI:Inv Tryz.prog M w0 σ w)(hb:Below w.heap.size w w2):
  Calls Tryz.prog 143 #[.string qn] w2 fun e w'=>(∃ cs:Array Value,e= .returned (.tuple #[.agg cs,.bool true])∧cs.size=256∧∀ c:UInt8,cs[c.toNat]? =some (.bool (gB c)))∧Below w2.heap.size w2 w':=by
 have h:=awk.sp [] M ⟨w2,M⟩ w2 [.string qn] (JP (hI.after hb)) (.cons (.v _) .nil)
 refine h.mono fun e w' ⟨M',r,σ',_,aP,hr,hq,_⟩=> ?_
 subst hq
 refine⟨?_,⟨aP.os,aP.tape,aP.output,aP.size,aP.old⟩⟩
 cases e<;>simp only[uJ]at hr
 obtain⟨cs,rfl,hR⟩:=hr.EU
 obtain⟨v1,vs,rfl,h1,h2⟩:=hR.bS
 obtain⟨v2,rfl,h3⟩:=h2.eg
 obtain rfl:=h3.ay
 obtain⟨cs,rfl,h4⟩:=h1.qd
 refine⟨cs.toArray,rfl,?_,fun c=> ?_⟩
 ·have:=h4.1
  rw[awF]at this
  simpa using this.symm
 ·obtain⟨v,hv,hR⟩:=h4.get (awE c.toNat_lt)
  have:=hR.ay
  subst this
  rw[Ym,hv]
  simp
end
section
open Go.RowKit Go.Proofs
theorem acs{w:World}{B x:Nat}{y:Bool}(hx:x<256)(hc:w.cell? ⟨B,x,none⟩=some (.bool y)):Calls Tryz.prog 144 #[.pointer (some ⟨B,0,none⟩),.int .u8 x] w fun e w'=>e= .returned (.bool y)∧w'=w:=by
 have mj:(x:Int)<256:=by omega
 go_enter Tryz.func144,Tryz.ntmps144
 go_wp2
 go_ret
 exact⟨rfl,rfl⟩
theorem aa6{w:World}{b off cap:Nat}{l:List UInt8}(h1:l.length=1)(mU:l.length≤cap)(kV:cap≤maxLen)(hb:b<w.heap.size)
  (hc:w.cell? ⟨b,off,none⟩=some (.int .u8 (l.getD 0 0).toNat)):
  Calls Tryz.prog 107 #[.slice (some ⟨b,off,none⟩) l.length cap,.string qn] w fun e w'=>e= .returned (.int .i64 (iy l))∧Below w.heap.size w w':=by
 have vo:qn.toList.isEmpty=false:=by rw[Lib.toList_data];rfl
 obtain⟨c,iH⟩:∃ c,l.getD 0 0=c:=⟨_,rfl⟩
 have ta:=fun w=>RI c w
 have hq:=RE c
 have tC:c.toNat<256:=c.toNat_lt
 have nf:=SK
 have pK:=SL
 have ia:=SM
 have vg:gB c=true→iy l=0:=fun h=>GJ (k:=0) (by omega) (fE.zero l) (by rw[iH];exact h)
 have sZ:gB c=false→iy l= -1:=fun h=>GK (by rw[h1];exact fE.succ (fE.zero l) (by rw[iH];exact h))
 have ax:= @QD c
 rw[iH]at hc
 obtain⟨x,hx⟩:∃ x,c.toNat=x:=⟨_,rfl⟩
 rw[hx]at hc ta tC ax
 have afn:=Vz tC
 rw[h1]
 obtain⟨y,hy⟩:∃ y,Lib.indexByte qn.data.toList c=y:=⟨_,rfl⟩
 rw[hy]at hq ta
 obtain⟨q,ov⟩:∃ q,qn=q:=⟨_,rfl⟩
 rw[ov]at vo ta nf pK ia ⊢
 clear ov iH hx hy
 by_cases ha:x<128
 ·have Iw:((x:Int)<128):=by omega
  clear nf pK ia ax
  cases hh:gB c
  ·have hA:=sZ hh
   rw[hh]at hq
   have hq:¬(0≤y):=of_decide_eq_false hq
   clear vg sZ
   go_enter Tryz.func107,Tryz.ntmps107
   go_wp2
   go_ret
   exact⟨by first|rfl|fail,Below.refl _ _⟩
  ·have hA:=vg hh
   rw[hh]at hq
   have hq:0≤y:=Yv hq
   clear vg sZ
   go_enter Tryz.func107,Tryz.ntmps107
   go_wp2
   go_ret
   exact⟨by(rw[hA];rfl),Below.refl _ _⟩
 ·have Iw:¬((x:Int)<128):=by omega
  have hA:=sZ (ax (by omega))
  clear vg sZ ax ta hq
  have QY:=nf w
  have QZ:=pK w
  have Q0:=ia w
  have nZ:Below w.heap.size w (w.iter q 2):=(Below.refl _ _).alloc (ZR _) _
  clear nf pK ia
  go_enter Tryz.func107,Tryz.ntmps107
  go_wp2
  refine wp_loop_rounds 3 ?_
  rw[rounds_succ]
  go_wp2
  rw[rounds_succ]
  go_wp2
  rw[rounds_succ]
  go_wp2
  go_ret
  exact⟨by(rw[hA];rfl),nZ⟩
set_option maxHeartbeats 40000000 in
theorem aa5{w:World}{b off cap:Nat}{l:List UInt8}(h8:8<l.length)(Ea:l.length≤16384)(mU:l.length≤cap)(kV:cap≤maxLen)(hb:b<w.heap.size)
  (hc:∀ i,i<l.length→w.cell? ⟨b,off+i,none⟩=some (.int .u8 (l.getD i 0).toNat))
  (hS:Calls Tryz.prog 143 #[.string qn] w fun e w'=>(∃ cs:Array Value,e= .returned (.tuple #[.agg cs,.bool true])∧cs.size=256∧∀ c:UInt8,cs[c.toNat]? =some (.bool (gB c)))∧Below w.heap.size w w'):
  Calls Tryz.prog 107 #[.slice (some ⟨b,off,none⟩) l.length cap,.string qn] w fun e w'=>e= .returned (.int .i64 (iy l))∧Below w.heap.size w w':=by
 have oq:((l.length:Int) == 1)=false:=YT.2 (by omega)
 have Ic:decide ((8:Int)<(l.length:Int))=true:=Zi (by omega)
 have vo:qn.toList.isEmpty=false:=by rw[Lib.toList_data];rfl
 have BF:qn.size=2:=rfl
 obtain⟨q,ov⟩:∃ q,qn=q:=⟨_,rfl⟩
 rw[ov]at vo BF hS ⊢
 clear ov
 go_enter Tryz.func107,Tryz.ntmps107
 go_wp2_with (first|(go_at_call 142;refine(KV _ _).mono ?_;rintro e w' ⟨rfl,hw⟩;rw[hw,Ic])|(go_at_call 143;refine hS.mono ?_;rintro e w2 ⟨⟨cs,rfl,mV,IK⟩,cW⟩))
 have tn:cs.all (·.oneCell')=true:=by
  rw[Array.all_eq_true]
  intro i hi
  have h1:=IK (UInt8.ofNat i)
  rw[show(UInt8.ofNat i).toNat=i by simp;omega,ZL hi,Z1]at h1
  rw[h1];rfl
 have QC:(Tryz.prog.info? 201).map (·.size)=some 256:=by kernel_rfl
 have pU:Tryz.zeroCells201.size=256:=by kernel_rfl
 rw[run_storeCells_new w2 201 Tryz.zeroCells201 cs (by rw[mV];exact QC) (by rw[mV];exact pU) tn]
 simp only[Result.andThen]
 rw[Oper.upon_skip]
 have hcell:∀ c:UInt8,(w2.alloc (.cells cs 201)).cell? ⟨w2.heap.size,c.toNat,none⟩=some (.bool (gB c)):=fun c=>by
  rw[cell_of_row _ _ c.toNat cs 201 (0,0) (heap_alloc_last w2 _)];exact IK c
 have hB:Below w.heap.size w (w2.alloc (.cells cs 201)):=cW.alloc cW.size _
 have n0:∀ i,i<l.length→(w2.alloc (.cells cs 201)).cell? ⟨b,off+i,none⟩=some (.int .u8 (l.getD i 0).toNat):=fun i hi=>by rw[hB.cell hb];exact hc i hi
 obtain⟨w3,Ek⟩:∃ w3,w2.alloc (.cells cs 201)=w3:=⟨_,rfl⟩
 rw[Ek]at hcell hB n0 ⊢
 obtain⟨B2,hB2⟩:∃ B2,w2.heap.size=B2:=⟨_,rfl⟩
 rw[hB2]at hcell ⊢
 clear IK tn QC pU Ek hS hc cW mV
 go_wp2
 go_loop [62] (fun i=>∃ k:Nat,i= .int .i64 k∧k≤l.length∧fE l k) (fun i=>l.length-(intOf i).toNat)
 case atStart=>exact⟨0,rfl,by omega,fE.zero l⟩
 case round=>
  obtain⟨k,rfl,hk,ep⟩:=hrel
  by_cases ya:k<l.length
  ·have Be:=n0 k ya
   have hd:((k:Int)<(l.length:Int)):=by omega
   obtain⟨c,iH⟩:∃ c,l.getD k 0=c:=⟨_,rfl⟩
   have b7:=hcell c
   have tC:c.toNat<256:=c.toNat_lt
   rw[iH]at Be
   obtain⟨x,hx⟩:∃ x,c.toNat=x:=⟨_,rfl⟩
   rw[hx]at Be b7 tC
   have hC:=acs tC b7
   have HN:uA (fE l k):=ep
   have HB:uA (Below w.heap.size w w3):=hB
   have HC:uA (l.getD k 0=c):=iH
   clear ep n0 iH hB hcell b7
   cases hh:gB c
   ·rw[hh]at hC
    go_wp2_with (go_at_call 144;refine hC.mono ?_;rintro e w' ⟨rfl,hw⟩;rw[hw])
    go_round
    case measure=>first|(simp only[intOf];omega)|fail
    case rel=>exact⟨k+1,by first|(push_cast;rfl)|fail,by omega,fE.succ HN (by rw[HC];exact hh)⟩
   ·rw[hh]at hC
    have hA:iy l=k:=GJ ya HN (by rw[HC];exact hh)
    go_wp2_with (go_at_call 144;refine hC.mono ?_;rintro e w' ⟨rfl,hw⟩;rw[hw])
    go_ret
    exact⟨by(rw[hA];rfl),HB⟩
  ·have hd:¬((k:Int)<(l.length:Int)):=by omega
   obtain rfl:k=l.length:=by omega
   have hA:=GK ep
   clear n0 hcell
   go_wp2
   go_ret
   exact⟨by first|rfl|fail,hB⟩
theorem any_nil{w:World}(a:Option Addr):Calls Tryz.prog 107 #[.slice a 0 0,.string qn] w fun e w'=>e= .returned (.int .i64 (iy []))∧Below w.heap.size w w':=by
 have vo:qn.toList.isEmpty=false:=by rw[Lib.toList_data];rfl
 have BF:qn.size=2:=rfl
 have hA:iy []= -1:=by decide
 obtain⟨q,ov⟩:∃ q,qn=q:=⟨_,rfl⟩
 rw[ov]at vo BF ⊢
 clear ov
 go_enter Tryz.func107,Tryz.ntmps107
 go_wp2_with (go_at_call 142;refine(KV _ _).mono ?_;rintro e w' ⟨rfl,hw⟩;rw[hw])
 refine wp_loop_rounds 1 ?_
 rw[rounds_succ]
 go_wp2
 go_ret
 exact⟨by first|rfl|fail,Below.refl _ _⟩
end
section
open Go.Sx Go.Proofs Go.RowKit
theorem aw2{M:Mem}{w0:Base}{w:World}{σ:Store}(hI:Inv Tryz.prog M w0 σ w):Lib.Utf8Tabs 6 7 w:=by
 constructor
 ·intro c hc
  obtain⟨b,off,cs,hv,hM,hR⟩:=(hI.gl 6 _ rfl).qf
  cases hv
  have hl:((List.range 256).map fun c=>AV.v (.int .u8 (Lib.firstT c:Nat))).length=256:=by simp
  have h1:=hI.dA _ _ _ (hM c (by rw[hl];exact hc))
  have h2:=(hR c (by rw[hl];exact hc))
  rw[Zc]at h1
  rw[h1]
  simp only[Zm,X5]at h2
  rw[h2.ay]
 ·intro i hi
  obtain⟨b,off,cs,hv,hM,hR⟩:=(hI.gl 7 _ rfl).qf
  cases hv
  have key:∀ i:Fin 16,((List.range 16).flatMap fun i=>[AV.v (.int .u8 (Lib.accLo i:Nat)),AV.v (.int .u8 (Lib.accHi i:Nat))])[2 * i.val]? =some (AV.v (.int .u8 (Lib.accLo i.val:Nat)))∧
    ((List.range 16).flatMap fun i=>[AV.v (.int .u8 (Lib.accLo i:Nat)),AV.v (.int .u8 (Lib.accHi i:Nat))])[2 * i.val+1]? =some (AV.v (.int .u8 (Lib.accHi i.val:Nat))):=by
   rintro⟨i,hi⟩
   have:i=0∨i=1∨i=2∨i=3∨i=4∨i=5∨i=6∨i=7∨i=8∨i=9∨i=10∨i=11∨i=12∨i=13∨i=14∨i=15:=by omega
   rcases this with rfl|rfl|rfl|rfl|rfl|rfl|rfl|rfl|rfl|rfl|rfl|rfl|rfl|rfl|rfl|rfl<;>exact⟨rfl,rfl⟩
  obtain⟨k1,k2⟩:=key ⟨i,hi⟩
  have one:∀ {j:Nat} {v:Value},((List.range 16).flatMap fun i=>[AV.v (.int .u8 (Lib.accLo i:Nat)),AV.v (.int .u8 (Lib.accHi i:Nat))])[j]? =some (AV.v v)→w.cell? ⟨7,j,none⟩=some v:=fun {j v} hj=>by
   obtain⟨mZ,lS⟩:=ZP.1 hj
   have h1:=hI.dA _ _ _ (hM j mZ)
   have h2:=hR j mZ
   rw[Zc]at h1
   rw[lS]at h2
   rw[h1,h2.ay]
  exact⟨one k1,one k2⟩
theorem aa4:wP:=by
 intro l nn hl
 refine Pure.lj fun M w0 w σ cs hI hR=> ?_
 obtain⟨v1,vs,rfl,h1,h2⟩:=hR.bS
 obtain⟨v2,rfl,h3⟩:=h2.eg
 obtain rfl:=h3.ay
 have fin:∀ {e w'},e=Ending.returned (.int .i64 (iy l))∧Below w.heap.size w w'→(∃ v,e= .returned v∧R M (iv (iy l)) v)∧Below w.heap.size w w':=fun⟨he,hb⟩=>⟨⟨_,he,.v _⟩,hb⟩
 rcases h1.qg with⟨a,_,h0,rfl⟩|⟨b,off,cap,cs,rfl,hr,h4,h5⟩
 ·obtain rfl:=YQ.1 h0
  exact(any_nil a).mono fun e w' h=>fin h
 have hlen:(l.map ck).length=l.length:=Z3 _
 rw[hlen]at h4 ⊢
 have hc:∀ i,i<l.length→w.cell? ⟨b,off+i,none⟩=some (.int .u8 (l.getD i 0).toNat):=fun i hi=>by
  have h6:=hI.dA _ _ _ (hr.mem i (by omega))
  have h7:=hr.rel i (by omega) 0 (by simp[ck])
  simp only[Zm,ck,Yo,Yi,YP]at h7
  rw[h6,h7.ay]
  simp[ZY,hi]
 have hb:0<l.length→b<w.heap.size:=fun h=>block_lt_of_cell (hc 0 h)
 obtain⟨m,hm⟩:=St hI
 by_cases e1:l.length=1
 ·exact(aa6 e1 h4 h5 (hb (by omega)) (hc 0 (by omega))).mono fun e w' h=>fin h
 ·by_cases e8:l.length≤8
  ·exact(aa7 e1 e8 h4 h5 hb hc (aw2 hI) hm).mono fun e w' h=>fin h
  ·exact(aa5 (by omega) hl h4 h5 (hb (by omega)) hc (awj hI (Below.refl _ _))).mono fun e w' h=>fin h
end
end Go.Proofs.YtcccbdelfhgmlaaGreatDoor
namespace Go.Proofs
open Go.Shelf
def Tryz.lays190_ren:Go.Shelf.Ren:=⟨fun|190=>49|125=>80|258=>79|128=>120|129=>121|302=>111|303=>112|304=>113|305=>114|306=>115|307=>116|308=>117|309=>118|310=>119|333=>154|329=>155|330=>156|334=>157|335=>158|336=>159|344=>192|n=>n,fun|31=>43|9=>9|3=>3|46=>138|0=>0|51=>176|53=>178|4=>4|183=>168|182=>167|131=>173|5=>5|218=>210|222=>214|228=>233|229=>234|n=>n,fun|n=>n⟩
theorem Tryz.lays190:Go.Proofs.Lays.n190 Tryz.prog Tryz.lays190_ren:=Go.Sx.rN
open Go.Sort Go.RowKit in
theorem Tryz.slices_Sort_string(jF off cap:Nat)(ss:List (List UInt8))(w:World)(hH:Holds encStr w jF off ss.toArray)(IC:jF<w.heap.size)(aQ:ss.length<4611686018427387904):
  Calls Tryz.prog 49 #[.slice (some ⟨jF,off,none⟩) ss.length cap] w fun e w'=>
   e= .returned (.tuple #[])∧∃ n os,w'=grow (putRow encStr (Sort.ahead w n) jF off (ss.mergeSort fun x y=>decide (x≤y)).toArray) os:=Any.slices_Sort_string Tryz.lays190 jF off cap ss w hH IC aQ
open Go.RowKit Go.Sort in
theorem Tryz.slices_Sort_string_none(p:Option Addr)(cap:Nat)(w:World):
  Calls Tryz.prog 49 #[.slice p 0 cap] w fun e w'=>e= .returned (.tuple #[])∧w'=w:=Any.slices_Sort_string_none Tryz.lays190 p cap w
end Go.Proofs
namespace Go.Tb
open Go.Maps Go.RowKit
open Go.Proofs (encStr)
instance (s:ByteArray)(L:List ByteArray):Decidable (s∈L):= @List.instDecidableMemOfLawfulBEq _ instBEqOfDecidableEq inferInstance s L
def ky(s:ByteArray):Lit:= .string s.data.toList
theorem yv(s:ByteArray):WideAt.IsKeyLit (ky s):=trivial
theorem abh{a b:ByteArray}(h:a.data.toList=b.data.toList):a=b:=by
 cases a;cases b;simp only[ByteArray.mk.injEq];exact Array.toList_inj.1 h
theorem R7{a b:ByteArray}(h:ky a=ky b):a=b:=abh (by simpa[ky]using h)
theorem J0{a b:ByteArray}(h:a≠b):ky a≠ky b:=fun e=>h (R7 e)
def dy(w:World)(P:Program)(k:TypeId)(R:Value→Option (DataW Unit×List MemPlace))(b:Nat)(L:List ByteArray)(f:ByteArray→DataW Unit):Prop:=
 L.Nodup∧(∀ s∈L,s.size≤maxLen)∧∃ D,w.ownsMap P k R b L.length D∧(∀ s,s.size≤maxLen→has D (ky s)=decide (s∈L))∧∀ s∈L,∀ z,D.atKey (ky s) z=f s
def ins(L:List ByteArray)(s:ByteArray):List ByteArray:=if s∈L then L else L++[s]
theorem pW{L:List ByteArray}{s x:ByteArray}:x∈ins L s↔x=s∨x∈L:=by
 unfold ins
 split
 ·rename_i h;constructor
  ·exact .inr
  ·rintro(rfl|h');exact h;exact h'
 ·simp[or_comm]
theorem RO{L:List ByteArray}{s:ByteArray}(h:L.Nodup):(ins L s).Nodup:=by
 unfold ins
 split
 ·exact h
 ·rename_i hn
  exact Yh.2 ⟨h,by simp,fun a ha b hb e=>by rw[ZI]at hb;subst hb;subst e;exact hn ha⟩
theorem afw(L:List ByteArray)(s:ByteArray):(ins L s).length≤L.length+1:=by unfold ins;split<;>simp
def dm(L:List ByteArray)(l:List ByteArray):List ByteArray:=l.foldl ins L
theorem rz{x:ByteArray}:∀ {l L:List ByteArray},x∈dm L l↔x∈l∨x∈L
 |[],L=>by simp[dm]
 |s::l,L=>by
  rw[show dm L (s::l)=dm (ins L s) l from rfl,rz (l:=l),pW,ZV];grind
theorem Er:∀ {l L:List ByteArray},L.Nodup→(dm L l).Nodup
 |[],L,h=>h
 |s::l,L,h=>Er (l:=l) (RO h)
theorem BR:∀ (l L:List ByteArray),(dm L l).length≤L.length+l.length
 |[],L=>ZR _
 |s::l,L=>by
  have h1:=BR l (ins L s)
  have h2:=afw L s
  simp only[Z6]
  exact Zk h1 (by omega)
theorem RN(L a b:List ByteArray):dm L (a++b)=dm (dm L a) b:=List.foldl_append
section
variable {P:Program}{k:TypeId}{R:Value→Option (DataW Unit×List MemPlace)}{w:World}{b:Nat}{L:List ByteArray}{f:ByteArray→DataW Unit}
theorem dy.lt(h:dy w P k R b L f):b<w.heap.size:=let⟨_,_,_,h,_⟩:=h;h.lt
theorem dy.isMap(h:dy w P k R b L f):∃ es c,w.heap[b]? =some (.map es c):=by
 obtain⟨_,_,D,⟨es,c,h,_⟩,_⟩:=h;exact⟨es,c,h⟩
theorem U0(w:World)(P:Program)(k:TypeId)(R:Value→Option (DataW Unit×List MemPlace))(f:ByteArray→DataW Unit):dy (w.alloc (.map #[] 0)) P k R w.heap.size [] f:=
 ⟨XJ,(fun s h=>nomatch h),_,World.ownsMap_made w P k R,(fun s _=>by simp[has]),(fun s h=>nomatch h)⟩
theorem dy.kept{w':World}{row:Option Nat}(h:dy w P k R b L f)(hg:w.grownBy w' row)(aJ:some b≠row):dy w' P k R b L f:=by
 obtain⟨h1,h2,D,h3,h4,h5⟩:=h;exact⟨h1,h2,D,h3.kept hg aJ,h4,h5⟩
theorem dy.alloc(h:dy w P k R b L f)(o:Obj):dy (w.alloc o) P k R b L f:=h.kept (World.grownBy_alloc w o none) (by simp)
theorem dy.block{w':World}(h:dy w P k R b L f)(hb:w'.heap[b]? =w.heap[b]?):dy w' P k R b L f:=by
 obtain⟨h1,h2,D,⟨es,c,h3,h6⟩,h4,h5⟩:=h;exact⟨h1,h2,D,⟨es,c,hb.trans h3,h6⟩,h4,h5⟩
theorem dy.congr{f':ByteArray→DataW Unit}(h:dy w P k R b L f)(hf:∀ s∈L,f s=f' s):dy w P k R b L f':=by
 obtain⟨h1,h2,D,h3,h4,h5⟩:=h;exact⟨h1,h2,D,h3,h4,fun s hs z=>(h5 s hs z).trans (hf s hs)⟩
theorem dy.store{w':World}{s:ByteArray}{D:DataW Unit}{d:DataW Unit}(h1:L.Nodup)(h2:∀ s∈L,s.size≤maxLen)(hm:IsMap D)(h4:∀ s,s.size≤maxLen→has D (ky s)=decide (s∈L))(h5:∀ s∈L,∀ z,D.atKey (ky s) z=f s)
  (hs:s.size≤maxLen) (h:w'.ownsMap P k R b (L.length+1) (D.put (ky s) d)) (K:Keyed P k) (hT:Tidy D) (hn:size D≤L.length):dy w' P k R b (ins L s) (fun x=>if x=s then d else f x):=by
 have hz:size (D.put (ky s) d)≤(ins L s).length:=by
  rw[size_put hT,h4 s hs]
  unfold ins
  by_cases hm:s∈L
  ·simpa[hm]using hn
  ·simpa[hm]using hn
 refine⟨RO h1,fun x hx=> ?_,D.put (ky s) d,?_,fun x hx=> ?_,fun x hx z=> ?_⟩
 ·rcases pW.1 hx with rfl|hx
  ·exact hs
  ·exact h2 x hx
 ·obtain⟨es,c,a1,a2,a3,a4⟩:=h
  refine⟨es,c,a1,a2,?_,a4⟩
  have e:size (D.put (ky s) d)=es.size:=by rw[a4,size_eq,length_read]
  omega
 ·by_cases e:x=s
  ·subst e
   rw[has_put_same hm (yv _)]
   simp[pW]
  ·rw[has_put_other (J0 e),h4 x hx]
   simp[pW,e]
 ·by_cases e:x=s
  ·subst e
   rw[atKey_put_same hm (yv _)];exact(Z8 rfl).symm
  ·rw[atKey_put_other (J0 e)]
   rcases pW.1 hx with hx|hx
   ·exact absurd hx e
   ·exact(h5 x hx z).trans (Z9 e).symm
end
section
variable {P:Program}{k:TypeId}(hk:P.underlying k=some .string)
variable {ops:Array Oper}{rest:List Oper}{o:Oper}{a:Act}{Q:Exit→Act→World→Prop}
theorem VK(w:World)(hg:o.guard=none)(m x v:Operand)(t:TypeId)(bP:o.op=Op.mapUpdate t m x v)(hk:P.underlying k=some .string)(e:TypeId)(ht:P.underlying t=some (.map k e))
  (R:Value→Option (DataW Unit×List MemPlace)) (b:Nat) (L:List ByteArray) (f:ByteArray→DataW Unit) (hm:a.eval m= .map (some b)) (h:dy w P k R b L f) (hn:L.length<maxLen) (s:ByteArray) (hx:a.eval x= .string s) (hs:s.size≤maxLen)
  (val:Value) (hv:a.eval v=val) (d:DataW Unit) (ps:List MemPlace) (hd:R val=some (d,ps))
  (hK:∀ w',dy w' P k R b (ins L s) (fun x=>if x=s then d else f x)→w.grownBy w' (some b)→wpList P ops Q rest (a.put o.dst undef) w'):wpList P ops Q (o::rest) a w:=by
 obtain⟨h1,h2,D,h3,h4,h5⟩:=h
 refine wpList_mapUpdate_own w hg m x v t bP k e (string_keyed hk) ht R b L.length D hm h3 hn _ val (ky s) hx hv (WideMaps.keyOf_string_mk hk hs) d ps hd fun w' hw mY=>hK w' ?_ mY
 exact dy.store h1 h2 h3.isMap h4 h5 hs hw (string_keyed hk) (h3.tidy (string_keyed hk)) h3.size_le
theorem VJ(w:World)(hg:o.guard=none)(m x:Operand)(t:TypeId)(bP:o.op=Op.lookup t m x false)(hk:P.underlying k=some .string)(e:TypeId)(ht:P.underlying t=some (.map k e))
  (R:Value→Option (DataW Unit×List MemPlace)) (z:Value) (hz:(zeroValue e).run P w= .ok z w) (zd:DataW Unit) (zp:List MemPlace) (hzd:R z=some (zd,zp))
  (b:Nat) (L:List ByteArray) (f:ByteArray→DataW Unit) (hm:a.eval m= .map (some b)) (h:dy w P k R b L f) (s:ByteArray) (hx:a.eval x= .string s) (hs:s.size≤maxLen)
  (val:Value) (hval:∀ v ps,R v=some (if s∈L then f s else zd,ps)→v=val)
  (hK:wpList P ops Q rest (a.put o.dst val) w):wpList P ops Q (o::rest) a w:=by
 obtain⟨h1,h2,D,h3,h4,h5⟩:=h
 refine wpList_plain hg fun K' sY=> ?_
 obtain⟨v,ps,eY,fP⟩:=h3.lookup (string_keyed hk) ht hz hzd (WideMaps.keyOf_string_mk hk hs)
 have e1:v=val:=by
  refine hval v ps ?_
  rw[fP]
  by_cases ef:s∈L
  ·rw[Z8 ef]
   exact Zy (fun d=>some (d,ps)) (h5 s ef zd)
  ·rw[Z9 ef]
   have h6:has D (ky s)=false:=by rw[h4 s hs];simp[ef]
   exact Zy (fun d=>some (d,ps)) (atKey_of_not_has h6 zd)
 subst e1
 unfold Oper.wp
 have afb:(Instr.lookup t (Value.map (some b)) (Value.string s) false).run P w= .ok v w:=eY
 simp[execOp,bP,hm,hx,afb,Result.andThen]
 exact sY _ _ hK
def fj(w:World)(P:Program)(k:TypeId)(R:Value→Option (DataW Unit×List MemPlace))(b r:Nat)(L:List ByteArray)(f:ByteArray→DataW Unit)(left:ByteArray→Prop)(aI:Nat):Prop:=
 L.Nodup∧(∀ s∈L,s.size≤maxLen)∧∃ D lf,w.ranges P k R b r L.length D lf aI∧(∀ s,s.size≤maxLen→has D (ky s)=decide (s∈L))∧(∀ s∈L,∀ z,D.atKey (ky s) z=f s)∧∀ s,s.size≤maxLen→(lf (ky s)=true↔left s)
theorem fj.dy{w:World}{R:Value→Option (DataW Unit×List MemPlace)}{b r:Nat}{L:List ByteArray}{f:ByteArray→DataW Unit}{left:ByteArray→Prop}{aI:Nat}(h:fj w P k R b r L f left aI):dy w P k R b L f:=by
 obtain⟨h1,h2,D,lf,h3,h4,h5,_⟩:=h;exact⟨h1,h2,D,h3.owns,h4,h5⟩
theorem fj.left_eq{w:World}{R:Value→Option (DataW Unit×List MemPlace)}{b r:Nat}{L:List ByteArray}{f:ByteArray→DataW Unit}{left:ByteArray→Prop}{aI:Nat}(h:fj w P k R b r L f left aI):w.rangeLeft b r=aI:=by
 obtain⟨h1,h2,D,lf,h3,_⟩:=h;exact h3.left_eq
theorem fj.kept{w w':World}{R:Value→Option (DataW Unit×List MemPlace)}{b r:Nat}{L:List ByteArray}{f:ByteArray→DataW Unit}{left:ByteArray→Prop}{aI:Nat}{row:Option Nat}(h:fj w P k R b r L f left aI)(hg:w.grownBy w' row)(hb:some b≠row)(hr:some r≠row):fj w' P k R b r L f left aI:=by
 obtain⟨h1,h2,D,lf,h3,h4,h5,h6⟩:=h;exact⟨h1,h2,D,lf,h3.kept hg hb hr,h4,h5,h6⟩
theorem fj.iter{w:World}{R:Value→Option (DataW Unit×List MemPlace)}{b r:Nat}{L:List ByteArray}{f:ByteArray→DataW Unit}{left:ByteArray→Prop}{aI:Nat}(h:fj w P k R b r L f left aI):∃ x y z u,w.heap[r]? =some (.mapIter x y z u):=by
 obtain⟨h1,h2,D,lf,⟨es,clock,since,seen,c0,_,_,_,_,h3,_⟩,_⟩:=h;exact⟨_,_,_,_,h3⟩
theorem LD(w:World)(hg:o.guard=none)(m:Operand)(t:TypeId)(bP:o.op=Op.range t m)(hk:P.underlying k=some .string)(e:TypeId)(ht:P.underlying t=some (.map k e))
  (R:Value→Option (DataW Unit×List MemPlace)) (b:Nat) (L:List ByteArray) (f:ByteArray→DataW Unit) (hm:a.eval m= .map (some b)) (h:dy w P k R b L f)
  (hK:∀ w' aI,fj w' P k R b w.heap.size L f (·∈L) aI→w.grownBy w' none→w'.heap.size=w.heap.size+1→wpList P ops Q rest (a.put o.dst (.pointer (some ⟨w.heap.size,0,none⟩))) w'):wpList P ops Q (o::rest) a w:=by
 obtain⟨h1,h2,D,h3,h4,h5⟩:=h
 exact wpList_range_own w hg m t bP k e (string_keyed hk) ht R b L.length D hm h3 fun w' hr mY aQ=>hK w' _ ⟨h1,h2,D,_,hr,h4,h5,fun s hs=>by rw[h4 s hs];simp⟩ mY aQ
theorem LB(w:World)(hg:o.guard=none)(it:Operand)(bP:o.op=Op.next it false)(hk:P.underlying k=some .string)(R:Value→Option (DataW Unit×List MemPlace))(EH:ByteArray→Value)
  (b r:Nat) (L:List ByteArray) (f:ByteArray→DataW Unit) (afB:∀ s∈L,∀ v ps,R v=some (f s,ps)→v=EH s) (left:ByteArray→Prop) (aI:Nat)
  (hit:a.eval it= .pointer (some ⟨r,0,none⟩)) (h:fj w P k R b r L f left aI)
  (aeu:(∀ s,s.size≤maxLen→¬left s)→wpList P ops Q rest (a.put o.dst (.tuple #[.bool false])) w)
  (aew:∀ (s:ByteArray) (w':World) (eQ:Nat),s∈L→left s→fj w' P k R b r L f (fun x=>left x∧x≠s) eQ→eQ<aI→w.grownBy w' (some r)→w'.heap.size=w.heap.size→
   (Instr.entry (.pointer (some ⟨r,0,none⟩))).run P w'= .ok (.tuple #[.string s,EH s]) w'→wpList P ops Q rest (a.put o.dst (.tuple #[.bool true,.string s,EH s])) w'):
  wpList P ops Q (o::rest) a w:=by
 obtain⟨h1,h2,D,lf,h3,h4,h5,h6⟩:=h
 refine wpList_plain hg fun K' sY=> ?_
 unfold Oper.wp
 rcases h3.next (string_keyed hk) o.type with⟨h0,hl,eY⟩|⟨key,v,kl,y,w',eQ,Bq,tj,hv,fP,eY,vz,ax,mY,aQ,x6⟩
 ·simp[execOp,bP,hit,eY,Result.andThen]
  exact sY _ _ (aeu fun s hs gg=>by have:=(h6 s hs).2 gg;rw[hl]at this;cases this)
 ·obtain⟨x,rfl,rfl,hx⟩:=Maps.keyOf_str hk Bq
  obtain⟨s,hs⟩:∃ s:ByteArray,s.data.toList=x:=⟨⟨x.toArray⟩,by simp⟩
  subst hs
  have iJ:s.size≤maxLen:=by rw[Zb]at hx;exact hx
  have ef:s∈L:=by
   have e1:has D (ky s)=true:=has_true_of_atKey fP
   rw[h4 s iJ]at e1
   simpa using e1
  have hval:v=EH s:=by
   refine afB s ef v y.2 ?_
   rw[hv,← h5 s ef (f s)]
   exact Zy some (Prod.ext (fP (f s)).symm rfl)
  have IX:encStr s.data.toList= .string s:=by simp[encStr]
  rw[IX]at eY x6
  subst hval
  simp[execOp,bP,hit,eY,Result.andThen]
  refine sY _ _ (aew s w' eQ ef ((h6 s iJ).1 tj) ⟨h1,h2,D,_,vz,h4,h5,fun x mj=> ?_⟩ ax mY aQ x6)
  rw[Z0,h6 x mj]
  refine and_congr_right fun _=> ?_
  by_cases e:x=s
  ·subst e
   have e2:=WideAt.sameKey_self (yv x)
   have e3:(ky x).sameKey (Lit.string x.data.toList)=true:=e2
   simp[e3]
  ·have e2:=sameKey_ne (J0 e)
   have e3:(ky x).sameKey (Lit.string s.data.toList)=false:=e2
   simp[e3,e]
end
abbrev tt:DataW Unit:= .lit (.bool true)
def set(w:World)(P:Program)(k e:TypeId)(b:Nat)(L:List ByteArray):Prop:=dy w P k (plainElem P e) b L fun _=>tt
theorem Dj{P:Program}{e:TypeId}(he:P.underlying e=some .bool){v:Value}{c:Bool}{ps:List MemPlace}(h:plainElem (H:=Unit) P e v=some (.lit (.bool c),ps)):v= .bool c:=by
 unfold plainElem at h
 rw[he]at h
 cases v<;>simp at h
 rw[h.1]
section
variable {P:Program}{k e:TypeId}{ops:Array Oper}{rest:List Oper}{o:Oper}{a:Act}{Q:Exit→Act→World→Prop}
theorem we(w:World)(P:Program)(k e:TypeId):set (w.alloc (.map #[] 0)) P k e w.heap.size []:=U0 w P k _ _
theorem CT(w:World)(hg:o.guard=none)(m x v:Operand)(t:TypeId)(bP:o.op=Op.mapUpdate t m x v)(hk:P.underlying k=some .string)(he:P.underlying e=some .bool)(ht:P.underlying t=some (.map k e))
  (b:Nat) (L:List ByteArray) (hm:a.eval m= .map (some b)) (h:set w P k e b L) (hn:L.length<maxLen) (s:ByteArray) (hx:a.eval x= .string s) (hs:s.size≤maxLen) (hv:a.eval v= .bool true)
  (hK:∀ w',set w' P k e b (ins L s)→w.grownBy w' (some b)→wpList P ops Q rest (a.put o.dst undef) w'):wpList P ops Q (o::rest) a w:=
 VK w hg m x v t bP hk e ht _ b L _ hm h hn s hx hs _ hv tt [] (plainElem_bool he true) fun w' hw mY=>hK w' (hw.congr fun x _=>by split<;>rfl) mY
theorem ux(w:World)(hg:o.guard=none)(m x:Operand)(t:TypeId)(bP:o.op=Op.lookup t m x false)(hk:P.underlying k=some .string)(he:P.underlying e=some .bool)(ht:P.underlying t=some (.map k e))
  (hz:(zeroValue e).run P w= .ok (.bool false) w) (b:Nat) (L:List ByteArray) (hm:a.eval m= .map (some b)) (h:set w P k e b L) (s:ByteArray) (hx:a.eval x= .string s) (hs:s.size≤maxLen)
  (hK:wpList P ops Q rest (a.put o.dst (.bool (decide (s∈L)))) w):wpList P ops Q (o::rest) a w:=
 VJ w hg m x t bP hk e ht _ (.bool false) hz (.lit (.bool false)) [] (plainElem_bool he false) b L _ hm h s hx hs (.bool (decide (s∈L))) (fun v ps hv=>by
  by_cases ef:s∈L
  ·rw[Z8 ef]at hv;rw[Dj he hv];simp[ef]
  ·rw[Z9 ef]at hv;rw[Dj he hv];simp[ef]) hK
end
def mapElem:Value→Option (DataW Unit×List MemPlace)
 | .map (some b)=>some (.lit (.int .i64 b),[])
 | .map none=>some (.nil,[])
 |_=>none
theorem Sr{v:Value}{n:Nat}{ps:List MemPlace}(h:mapElem v=some (.lit (.int .i64 n),ps)):v= .map (some n):=by
 unfold mapElem at h
 split at h
 ·simp at h;have:=h.1;rw[Int.ofNat_inj.1 this]
 ·simp at h
 ·cases h
theorem ago{v:Value}{ps:List MemPlace}(h:mapElem v=some (.nil,ps)):v= .map none:=by
 unfold mapElem at h
 split at h
 ·simp at h
 ·rfl
 ·cases h
def maps(w:World)(P:Program)(k:TypeId)(b:Nat)(L:List ByteArray)(at_:ByteArray→Nat):Prop:=dy w P k mapElem b L fun s=> .lit (.int .i64 (at_ s))
section
variable {P:Program}{k e:TypeId}{ops:Array Oper}{rest:List Oper}{o:Oper}{a:Act}{Q:Exit→Act→World→Prop}
theorem zN(w:World)(hg:o.guard=none)(m x:Operand)(t:TypeId)(bP:o.op=Op.lookup t m x false)(hk:P.underlying k=some .string)(ht:P.underlying t=some (.map k e))
  (hz:(zeroValue e).run P w= .ok (.map none) w) (b:Nat) (L:List ByteArray) (at_:ByteArray→Nat) (hm:a.eval m= .map (some b)) (h:maps w P k b L at_) (s:ByteArray) (hx:a.eval x= .string s) (hs:s.size≤maxLen)
  (hK:wpList P ops Q rest (a.put o.dst (.map (if s∈L then some (at_ s)else none))) w):wpList P ops Q (o::rest) a w:=
 VJ w hg m x t bP hk e ht _ (.map none) hz .nil [] rfl b L _ hm h s hx hs _ (fun v ps hv=>by
  by_cases ef:s∈L
  ·rw[Z8 ef]at hv ⊢;exact Sr hv
  ·rw[Z9 ef]at hv ⊢;exact ago hv) hK
theorem ayc(w:World)(hg:o.guard=none)(m x v:Operand)(t:TypeId)(bP:o.op=Op.mapUpdate t m x v)(hk:P.underlying k=some .string)(ht:P.underlying t=some (.map k e))
  (b:Nat) (L:List ByteArray) (at_:ByteArray→Nat) (hm:a.eval m= .map (some b)) (h:maps w P k b L at_) (hn:L.length<maxLen) (s:ByteArray) (hx:a.eval x= .string s) (hs:s.size≤maxLen) (n:Nat) (hv:a.eval v= .map (some n))
  (hK:∀ w',maps w' P k b (ins L s) (fun x=>if x=s then n else at_ x)→w.grownBy w' (some b)→wpList P ops Q rest (a.put o.dst undef) w'):wpList P ops Q (o::rest) a w:=
 VK w hg m x v t bP hk e ht _ b L _ hm h hn s hx hs _ hv (.lit (.int .i64 n)) [] rfl fun w' hw mY=>hK w' (hw.congr fun x _=>by by_cases e:x=s<;>simp[e]) mY
end
end Go.Tb
