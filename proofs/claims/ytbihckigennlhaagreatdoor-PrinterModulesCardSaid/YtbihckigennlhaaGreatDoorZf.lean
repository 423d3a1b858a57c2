/- bytes.IndexAny of a quote and a line's end: one byte; more than eight; joined. -/
import Derived.Test.YtbihckigennlhaaGreatDoorZb
import Derived.Deep.WholeRow
import Derived.Shelf.Small.Utf8
import Derived.Shelf.Small.Bits
import Derived.Shelf.Small.Strs
import Derived.Shelf.Small.Wraps
import Derived.Shelf.LaysM
import Derived.Shelf.LaysC
import Derived.Shelf.Sort.Plain
import Derived.Shelf.SortM.SortNone
import Derived.Test.YtbihckigennlhaaGreatDoorSxX3
import Derived.Test.YtbihckigennlhaaGreatDoorChecked
import Derived.Maps.OwnSet
import Derived.Maps.OwnOps
import Derived.Maps.RangeWalk
import Derived.Sort.MapsRangeIn
import Derived.Sort.KeysCollected
import Derived.Carry
import Derived.OwnWalk
import Derived.Maps.AppendAt
import Derived.WalkKit
set_option linter.unusedSimpArgs false
set_option linter.unusedVariables false
set_option linter.unusedSectionVars false
set_option maxRecDepth 100000
set_option maxHeartbeats 8000000
namespace Go.Proofs.YtbihckigennlhaaGreatDoor
section
open Go.Sx Go.Proofs Go.RowKit
theorem ayf{x:Nat}(h:x<256):(Cc 2)[x]? =some (.v (.bool (fN (UInt8.ofNat x)))):=by
 have key:∀ x:Fin 256,fN (UInt8.ofNat x.val)=decide (x.val=34∨x.val=10):=by decide
 have k2:=key ⟨x,h⟩
 simp only at k2
 rw[k2]
 show((f256.set 34 (.v (.bool true))).set 10 (.v (.bool true)))[x]? =_
 rw[List.getElem?_set,List.getElem?_set]
 have hl:f256.length=256:=rfl
 have h0:f256[x]? =some (.v (.bool false)):=by
  show(List.replicate 256 _)[x]? =_
  rw[List.getElem?_replicate,if_pos h]
 split
 ·rename_i e;subst e
  rw[if_pos (by decide)];simp
 ·split
  ·rename_i e1 e2;subst e2
   rw[if_pos (by decide)];simp
  ·rename_i e1 e2
   rw[h0,Zp (by omega)]
theorem axS{M:Mem}{w0:Base}{w w2:World}{σ:Store}(hI:Inv Tryz.prog M w0 σ w)(hb:Below w.heap.size w w2):
  Calls Tryz.prog 140 #[.string qn] w2 fun e w'=>(∃ cs:Array Value,e= .returned (.tuple #[.agg cs,.bool true])∧cs.size=256∧∀ c:UInt8,cs[c.toNat]? =some (.bool (fN c)))∧Below w2.heap.size w2 w':=by
 have h:=axT.sp [] M ⟨w2,M⟩ w2 [.string qn] (Mj (hI.after hb)) (.cons (.v _) .nil)
 refine h.mono fun e w' ⟨M',r,σ',_,hI',hr,hq,_⟩=> ?_
 subst hq
 refine⟨?_,⟨hI'.os,hI'.tape,hI'.output,hI'.size,hI'.old⟩⟩
 cases e<;>simp only[uB]at hr
 obtain⟨cs,rfl,hR⟩:=hr.BI
 obtain⟨v1,vs,rfl,h1,h2⟩:=hR.cN
 obtain⟨v2,rfl,h3⟩:=h2.dV
 obtain rfl:=h3.az
 obtain⟨cs,rfl,h4⟩:=h1.vS
 refine⟨cs.toArray,rfl,?_,fun c=> ?_⟩
 ·have:=h4.1
  rw[ayg]at this
  simpa using this.symm
 ·obtain⟨v,hv,hR⟩:=h4.get (ayf c.toNat_lt)
  have:=hR.az
  subst this
  rw[XN,hv]
  simp
end
section
open Go.RowKit Go.Proofs
theorem U3{w:World}{B x:Nat}{y:Bool}(hx:x<256)(hc:w.cell? ⟨B,x,none⟩=some (.bool y)):Calls Tryz.prog 141 #[.pointer (some ⟨B,0,none⟩),.int .u8 x] w fun e w'=>e= .returned (.bool y)∧w'=w:=by
 have vz:(x:Int)<256:=by omega
 go_enter Tryz.func141,Tryz.ntmps141
 go_wp2
 go_ret
 exact⟨rfl,rfl⟩
theorem Tx{w:World}{b off cap:Nat}{l:List UInt8}(h1:l.length=1)(lE:l.length≤cap)(nQ:cap≤maxLen)(hb:b<w.heap.size)
  (hc:w.cell? ⟨b,off,none⟩=some (.int .u8 (l.getD 0 0).toNat)):
  Calls Tryz.prog 96 #[.slice (some ⟨b,off,none⟩) l.length cap,.string qn] w fun e w'=>e= .returned (.int .i64 (gD l))∧Below w.heap.size w w':=by
 have sT:qn.toList.isEmpty=false:=by rw[Lib.toList_data];rfl
 obtain⟨c,gK⟩:∃ c,l.getD 0 0=c:=⟨_,rfl⟩
 have qF:=fun w=>Me c w
 have hq:=Mc c
 have qQ:c.toNat<256:=c.toNat_lt
 have kB:=Ni
 have nS:=Nj
 have ib:=Nk
 have sJ:fN c=true→gD l=0:=fun h=>Di (k:=0) (by omega) (eU.zero l) (by rw[gK];exact h)
 have qB:fN c=false→gD l= -1:=fun h=>Dj (by rw[h1];exact eU.succ (eU.zero l) (by rw[gK];exact h))
 have aH:= @Lg c
 rw[gK]at hc
 obtain⟨x,hx⟩:∃ x,c.toNat=x:=⟨_,rfl⟩
 rw[hx]at hc qF qQ aH
 have aaN:=PT qQ
 rw[h1]
 obtain⟨y,hy⟩:∃ y,Lib.indexByte qn.data.toList c=y:=⟨_,rfl⟩
 rw[hy]at hq qF
 obtain⟨q,kD⟩:∃ q,qn=q:=⟨_,rfl⟩
 rw[kD]at sT qF kB nS ib ⊢
 clear kD gK hx hy
 by_cases ha:x<128
 ·have Ei:((x:Int)<128):=by omega
  clear kB nS ib aH
  cases hh:fN c
  ·have hA:=qB hh
   rw[hh]at hq
   have hq:¬(0≤y):=of_decide_eq_false hq
   clear sJ qB
   go_enter Tryz.func96,Tryz.ntmps96
   go_wp2
   go_ret
   exact⟨by first|rfl|fail,Below.refl _ _⟩
  ·have hA:=sJ hh
   rw[hh]at hq
   have hq:0≤y:=of_decide_eq_true hq
   clear sJ qB
   go_enter Tryz.func96,Tryz.ntmps96
   go_wp2
   go_ret
   exact⟨by(rw[hA];rfl),Below.refl _ _⟩
 ·have Ei:¬((x:Int)<128):=by omega
  have hA:=qB (aH (by omega))
  clear sJ qB aH qF hq
  have Lx:=kB w
  have Ly:=nS w
  have Lz:=ib w
  have sN:Below w.heap.size w (w.iter q 2):=(Below.refl _ _).alloc (ZI _) _
  clear kB nS ib
  go_enter Tryz.func96,Tryz.ntmps96
  go_wp2
  refine wp_loop_rounds 3 ?_
  rw[rounds_succ]
  go_wp2
  rw[rounds_succ]
  go_wp2
  rw[rounds_succ]
  go_wp2
  go_ret
  exact⟨by(rw[hA];rfl),sN⟩
set_option maxHeartbeats 40000000 in
theorem Tw{w:World}{b off cap:Nat}{l:List UInt8}(h8:8<l.length)(Bf:l.length≤16384)(lE:l.length≤cap)(nQ:cap≤maxLen)(hb:b<w.heap.size)
  (hc:∀ i,i<l.length→w.cell? ⟨b,off+i,none⟩=some (.int .u8 (l.getD i 0).toNat))
  (hS:Calls Tryz.prog 140 #[.string qn] w fun e w'=>(∃ cs:Array Value,e= .returned (.tuple #[.agg cs,.bool true])∧cs.size=256∧∀ c:UInt8,cs[c.toNat]? =some (.bool (fN c)))∧Below w.heap.size w w'):
  Calls Tryz.prog 96 #[.slice (some ⟨b,off,none⟩) l.length cap,.string qn] w fun e w'=>e= .returned (.int .i64 (gD l))∧Below w.heap.size w w':=by
 have nR:((l.length:Int) == 1)=false:=YU.2 (by omega)
 have D3:decide ((8:Int)<(l.length:Int))=true:=Zi (by omega)
 have sT:qn.toList.isEmpty=false:=by rw[Lib.toList_data];rfl
 have yj:qn.size=2:=rfl
 obtain⟨q,kD⟩:∃ q,qn=q:=⟨_,rfl⟩
 rw[kD]at sT yj hS ⊢
 clear kD
 go_enter Tryz.func96,Tryz.ntmps96
 go_wp2_with (first|(go_at_call 139;refine(Gr _ _).mono ?_;rintro e w' ⟨rfl,hw⟩;rw[hw,D3])|(go_at_call 140;refine hS.mono ?_;rintro e w2 ⟨⟨cs,rfl,ku,En⟩,fx⟩))
 have vp:cs.all (·.oneCell')=true:=by
  rw[Array.all_eq_true]
  intro i hi
  have h1:=En (UInt8.ofNat i)
  rw[show(UInt8.ofNat i).toNat=i by simp;omega,ZQ hi,Z5]at h1
  rw[h1];rfl
 have Lf:(Tryz.prog.info? 175).map (·.size)=some 256:=by kernel_rfl
 have yv:Tryz.zeroCells175.size=256:=by kernel_rfl
 rw[run_storeCells_new w2 175 Tryz.zeroCells175 cs (by rw[ku];exact Lf) (by rw[ku];exact yv) vp]
 simp only[Result.andThen]
 rw[Oper.upon_skip]
 have hcell:∀ c:UInt8,(w2.alloc (.cells cs 175)).cell? ⟨w2.heap.size,c.toNat,none⟩=some (.bool (fN c)):=fun c=>by
  rw[cell_of_row _ _ c.toNat cs 175 (0,0) (heap_alloc_last w2 _)];exact En c
 have hB:Below w.heap.size w (w2.alloc (.cells cs 175)):=fx.alloc fx.size _
 have sO:∀ i,i<l.length→(w2.alloc (.cells cs 175)).cell? ⟨b,off+i,none⟩=some (.int .u8 (l.getD i 0).toNat):=fun i hi=>by rw[hB.cell hb];exact hc i hi
 obtain⟨w3,Bo⟩:∃ w3,w2.alloc (.cells cs 175)=w3:=⟨_,rfl⟩
 rw[Bo]at hcell hB sO ⊢
 obtain⟨B2,W9⟩:∃ B2,w2.heap.size=B2:=⟨_,rfl⟩
 rw[W9]at hcell ⊢
 clear En vp Lf yv Bo hS hc fx ku
 go_wp2
 go_loop [62] (fun i=>∃ k:Nat,i= .int .i64 k∧k≤l.length∧eU l k) (fun i=>l.length-(intOf i).toNat)
 case atStart=>exact⟨0,rfl,by omega,eU.zero l⟩
 case round=>
  obtain⟨k,rfl,hk,fA⟩:=hrel
  by_cases qG:k<l.length
  ·have xV:=sO k qG
   have hd:((k:Int)<(l.length:Int)):=by omega
   obtain⟨c,gK⟩:∃ c,l.getD k 0=c:=⟨_,rfl⟩
   have bJ:=hcell c
   have qQ:c.toNat<256:=c.toNat_lt
   rw[gK]at xV
   obtain⟨x,hx⟩:∃ x,c.toNat=x:=⟨_,rfl⟩
   rw[hx]at xV bJ qQ
   have hC:=U3 qQ bJ
   have HN:rU (eU l k):=fA
   have HB:rU (Below w.heap.size w w3):=hB
   have HC:rU (l.getD k 0=c):=gK
   clear fA sO gK hB hcell bJ
   cases hh:fN c
   ·rw[hh]at hC
    go_wp2_with (go_at_call 141;refine hC.mono ?_;rintro e w' ⟨rfl,hw⟩;rw[hw])
    go_round
    case measure=>first|(simp only[intOf];omega)|fail
    case rel=>exact⟨k+1,by first|(push_cast;rfl)|fail,by omega,eU.succ HN (by rw[HC];exact hh)⟩
   ·rw[hh]at hC
    have hA:gD l=k:=Di qG HN (by rw[HC];exact hh)
    go_wp2_with (go_at_call 141;refine hC.mono ?_;rintro e w' ⟨rfl,hw⟩;rw[hw])
    go_ret
    exact⟨by(rw[hA];rfl),HB⟩
  ·have hd:¬((k:Int)<(l.length:Int)):=by omega
   obtain rfl:k=l.length:=by omega
   have hA:=Dj fA
   clear sO hcell
   go_wp2
   go_ret
   exact⟨by first|rfl|fail,hB⟩
theorem any_nil{w:World}(a:Option Addr):Calls Tryz.prog 96 #[.slice a 0 0,.string qn] w fun e w'=>e= .returned (.int .i64 (gD []))∧Below w.heap.size w w':=by
 have sT:qn.toList.isEmpty=false:=by rw[Lib.toList_data];rfl
 have yj:qn.size=2:=rfl
 have hA:gD []= -1:=by decide
 obtain⟨q,kD⟩:∃ q,qn=q:=⟨_,rfl⟩
 rw[kD]at sT yj ⊢
 clear kD
 go_enter Tryz.func96,Tryz.ntmps96
 go_wp2_with (go_at_call 139;refine(Gr _ _).mono ?_;rintro e w' ⟨rfl,hw⟩;rw[hw])
 refine wp_loop_rounds 1 ?_
 rw[rounds_succ]
 go_wp2
 go_ret
 exact⟨by first|rfl|fail,Below.refl _ _⟩
end
section
open Go.Sx Go.Proofs Go.RowKit
theorem ayu{M:Mem}{w0:Base}{w:World}{σ:Store}(hI:Inv Tryz.prog M w0 σ w):Lib.Utf8Tabs 5 6 w:=by
 constructor
 ·intro c hc
  obtain⟨b,off,cs,hv,hM,hR⟩:=(hI.gl 5 _ rfl).ot
  cases hv
  have hl:((List.range 256).map fun c=>AV.v (.int .u8 (Lib.firstT c:Nat))).length=256:=by simp
  have h1:=hI.dB _ _ _ (hM c (by rw[hl];exact hc))
  have h2:=(hR c (by rw[hl];exact hc))
  rw[Zh]at h1
  rw[h1]
  simp only[Zg,List.getElem_range]at h2
  rw[h2.az]
 ·intro i hi
  obtain⟨b,off,cs,hv,hM,hR⟩:=(hI.gl 6 _ rfl).ot
  cases hv
  have key:∀ i:Fin 16,((List.range 16).flatMap fun i=>[AV.v (.int .u8 (Lib.accLo i:Nat)),AV.v (.int .u8 (Lib.accHi i:Nat))])[2 * i.val]? =some (AV.v (.int .u8 (Lib.accLo i.val:Nat)))∧
    ((List.range 16).flatMap fun i=>[AV.v (.int .u8 (Lib.accLo i:Nat)),AV.v (.int .u8 (Lib.accHi i:Nat))])[2 * i.val+1]? =some (AV.v (.int .u8 (Lib.accHi i.val:Nat))):=by
   rintro⟨i,hi⟩
   have:i=0∨i=1∨i=2∨i=3∨i=4∨i=5∨i=6∨i=7∨i=8∨i=9∨i=10∨i=11∨i=12∨i=13∨i=14∨i=15:=by omega
   rcases this with rfl|rfl|rfl|rfl|rfl|rfl|rfl|rfl|rfl|rfl|rfl|rfl|rfl|rfl|rfl|rfl<;>exact⟨rfl,rfl⟩
  obtain⟨k1,k2⟩:=key ⟨i,hi⟩
  have one:∀ {j:Nat} {v:Value},((List.range 16).flatMap fun i=>[AV.v (.int .u8 (Lib.accLo i:Nat)),AV.v (.int .u8 (Lib.accHi i:Nat))])[j]? =some (AV.v v)→w.cell? ⟨6,j,none⟩=some v:=fun {j v} hj=>by
   obtain⟨lH,nN⟩:=ZN.1 hj
   have h1:=hI.dB _ _ _ (hM j lH)
   have h2:=hR j lH
   rw[Zh]at h1
   rw[nN]at h2
   rw[h1,h2.az]
  exact⟨one k1,one k2⟩
theorem Dh:ur:=by
 intro l nn hl
 refine Pure.shelf fun M w0 w σ cs hI hR=> ?_
 obtain⟨v1,vs,rfl,h1,h2⟩:=hR.cN
 obtain⟨v2,rfl,h3⟩:=h2.dV
 obtain rfl:=h3.az
 have fin:∀ {e w'},e=Ending.returned (.int .i64 (gD l))∧Below w.heap.size w w'→(∃ v,e= .returned v∧R M (iv (gD l)) v)∧Below w.heap.size w w':=fun⟨he,hb⟩=>⟨⟨_,he,.v _⟩,hb⟩
 rcases h1.pD with⟨a,_,h0,rfl⟩|⟨b,off,cap,cs,rfl,hr,h4,h5⟩
 ·obtain rfl:=YO.1 h0
  exact(any_nil a).mono fun e w' h=>fin h
 have hlen:(l.map bn).length=l.length:=Z3 _
 rw[hlen]at h4 ⊢
 have hc:∀ i,i<l.length→w.cell? ⟨b,off+i,none⟩=some (.int .u8 (l.getD i 0).toNat):=fun i hi=>by
  have h6:=hI.dB _ _ _ (hr.mem i (by omega))
  have h7:=hr.rel i (by omega) 0 (by simp[bn])
  simp only[Zg,bn,YI,XU,YN]at h7
  rw[h6,h7.az]
  simp[Z1,hi]
 have hb:0<l.length→b<w.heap.size:=fun h=>block_lt_of_cell (hc 0 h)
 obtain⟨m,hm⟩:=MW hI
 by_cases e1:l.length=1
 ·exact(Tx e1 h4 h5 (hb (by omega)) (hc 0 (by omega))).mono fun e w' h=>fin h
 ·by_cases e8:l.length≤8
  ·exact(Tz e1 e8 h4 h5 hb hc (ayu hI) hm).mono fun e w' h=>fin h
  ·exact(Tw (by omega) hl h4 h5 (hb (by omega)) hc (axS hI (Below.refl _ _))).mono fun e w' h=>fin h
end
end Go.Proofs.YtbihckigennlhaaGreatDoor
namespace Go.Proofs
open Go.Shelf
def Tryz.lays190_ren:Go.Shelf.Ren:=⟨fun|190=>209|125=>228|258=>227|128=>247|129=>214|302=>238|303=>239|304=>240|305=>241|306=>242|307=>243|308=>244|309=>245|310=>246|333=>250|329=>251|330=>252|334=>253|335=>254|336=>255|344=>257|n=>n,fun|31=>128|9=>9|3=>3|46=>206|0=>0|51=>231|53=>210|4=>4|183=>263|182=>262|131=>144|5=>5|218=>272|222=>276|228=>278|229=>279|n=>n,fun|n=>n⟩
theorem Tryz.lays190:Go.Proofs.Lays.n190 Tryz.prog Tryz.lays190_ren:=Go.Sx.pK
open Go.Sort Go.RowKit in
theorem Tryz.slices_Sort_string(jT off cap:Nat)(ss:List (List UInt8))(w:World)(hH:Holds encStr w jT off ss.toArray)(XA:jT<w.heap.size)(hsz:ss.length<4611686018427387904):
  Calls Tryz.prog 209 #[.slice (some ⟨jT,off,none⟩) ss.length cap] w fun e w'=>
   e= .returned (.tuple #[])∧∃ n os,w'=grow (putRow encStr (Sort.ahead w n) jT off (ss.mergeSort fun x y=>decide (x≤y)).toArray) os:=Any.slices_Sort_string Tryz.lays190 jT off cap ss w hH XA hsz
def Tryz.laysSlM6_f209_ren:Go.Shelf.Ren:=⟨fun|6=>209|8=>228|9=>227|19=>247|20=>214|21=>238|22=>239|23=>240|24=>241|25=>242|26=>243|27=>244|28=>245|29=>246|36=>250|31=>251|32=>252|37=>253|38=>254|39=>255|41=>257|n=>n,fun|27=>128|29=>9|3=>3|32=>206|26=>128|0=>0|44=>231|46=>210|4=>4|36=>263|35=>262|41=>144|5=>5|9=>9|53=>272|57=>276|63=>278|64=>279|n=>n,fun|n=>n⟩
theorem Tryz.laysSlM6_f209:Go.Proofs.SlLaysM.n6 Tryz.prog Tryz.laysSlM6_f209_ren:={
 mixed:=by kernel_rfl
 f6:=⟨Tryz.f209.name,by decide,Tryz.func209.trans (congrArg some (by kernel_rfl))⟩
 f8:=Tryz.func228.trans (congrArg some (by kernel_rfl))
 f9:=⟨Tryz.f227.name,by decide,Tryz.func227.trans (congrArg some (by kernel_rfl))⟩
 f19:=Tryz.func247.trans (congrArg some (by kernel_rfl))
 f20:=Tryz.func214.trans (congrArg some (by kernel_rfl))
 f21:=⟨Tryz.f238.name,by decide,Tryz.func238.trans (congrArg some (by kernel_rfl))⟩
 f22:=⟨Tryz.f239.name,by decide,Tryz.func239.trans (congrArg some (by kernel_rfl))⟩
 f23:=⟨Tryz.f240.name,by decide,Tryz.func240.trans (congrArg some (by kernel_rfl))⟩
 f24:=⟨Tryz.f241.name,by decide,Tryz.func241.trans (congrArg some (by kernel_rfl))⟩
 f25:=⟨Tryz.f242.name,by decide,Tryz.func242.trans (congrArg some (by kernel_rfl))⟩
 f26:=⟨Tryz.f243.name,by decide,Tryz.func243.trans (congrArg some (by kernel_rfl))⟩
 f27:=⟨Tryz.f244.name,by decide,Tryz.func244.trans (congrArg some (by kernel_rfl))⟩
 f28:=⟨Tryz.f245.name,by decide,Tryz.func245.trans (congrArg some (by kernel_rfl))⟩
 f29:=⟨Tryz.f246.name,by decide,Tryz.func246.trans (congrArg some (by kernel_rfl))⟩
 f31:=Tryz.func251.trans (congrArg some (by kernel_rfl))
 f32:=Tryz.func252.trans (congrArg some (by kernel_rfl))
 f36:=⟨Tryz.f250.name,by decide,Tryz.func250.trans (congrArg some (by kernel_rfl))⟩
 f37:=⟨Tryz.f253.name,by decide,Tryz.func253.trans (congrArg some (by kernel_rfl))⟩
 f38:=⟨Tryz.f254.name,by decide,Tryz.func254.trans (congrArg some (by kernel_rfl))⟩
 f39:=⟨Tryz.f255.name,by decide,Tryz.func255.trans (congrArg some (by kernel_rfl))⟩
 f41:=⟨Tryz.f257.name,by decide,Tryz.func257.trans (congrArg some (by kernel_rfl))⟩
 t0:=Tryz.underlying0
 a0:=Tryz.isAgg0
 z0:=Tryz.sizeOf0
 v0:=Tryz.zeroValue0
 t3:=Tryz.underlying3
 a3:=Tryz.isAgg3
 z3:=Tryz.sizeOf3
 v3:=Tryz.zeroValue3
 t4:=Tryz.underlying4
 a4:=Tryz.isAgg4
 z4:=Tryz.sizeOf4
 v4:=Tryz.zeroValue4
 t5:=Tryz.underlying5
 a5:=Tryz.isAgg5
 z5:=Tryz.sizeOf5
 v5:=Tryz.zeroValue5
 t9:=Tryz.underlying9
 a9:=Tryz.isAgg9
 z9:=Tryz.sizeOf9
 v9:=Tryz.zeroValue9
 t26:=Tryz.underlying128
 a26:=Tryz.isAgg128
 z26:=Tryz.sizeOf128
 v26:=Tryz.zeroValue128
 t27:=Tryz.underlying128
 a27:=Tryz.isAgg128
 z27:=Tryz.sizeOf128
 v27:=Tryz.zeroValue128
 t29:=Tryz.underlying9
 a29:=Tryz.isAgg9
 z29:=Tryz.sizeOf9
 v29:=Tryz.zeroValue9
 t32:=Tryz.underlying206
 a32:=Tryz.isAgg206
 z32:=Tryz.sizeOf206
 v32:=Tryz.zeroValue206
 t35:=Tryz.underlying262
 a35:=Tryz.isAgg262
 z35:=Tryz.sizeOf262
 v35:=Tryz.zeroValue262
 t36:=Tryz.underlying263
 a36:=Tryz.isAgg263
 z36:=Tryz.sizeOf263
 v36:=Tryz.zeroValue263
 t41:=Tryz.underlying144
 a41:=Tryz.isAgg144
 z41:=Tryz.sizeOf144
 v41:=Tryz.zeroValue144
 t44:=Tryz.underlying231
 a44:=Tryz.isAgg231
 z44:=Tryz.sizeOf231
 v44:=Tryz.zeroValue231
 t46:=Tryz.underlying210
 a46:=Tryz.isAgg210
 z46:=Tryz.sizeOf210
 v46:=Tryz.zeroValue210
 t53:=Tryz.underlying272
 a53:=Tryz.isAgg272
 z53:=Tryz.sizeOf272
 v53:=Tryz.zeroValue272
 t57:=Tryz.underlying276
 a57:=Tryz.isAgg276
 z57:=Tryz.sizeOf276
 v57:=Tryz.zeroValue276
 t63:=Tryz.underlying278
 a63:=Tryz.isAgg278
 z63:=Tryz.sizeOf278
 v63:=Tryz.zeroValue278
 t64:=Tryz.underlying279
 a64:=Tryz.isAgg279
 z64:=Tryz.sizeOf279
 v64:=Tryz.zeroValue279}
open Go.RowKit Go.Sort in
theorem Tryz.slices_Sort_string_none(p:Option Addr)(cap:Nat)(w:World):
  Calls Tryz.prog 209 #[.slice p 0 cap] w fun e w'=>e= .returned (.tuple #[])∧w'=w:=AnyM.slices_Sort_string_none Tryz.laysSlM6_f209 p cap w
end Go.Proofs
namespace Go.Tb
open Go.Maps Go.RowKit
open Go.Proofs (encStr)
instance (s:ByteArray)(L:List ByteArray):Decidable (s∈L):= @List.instDecidableMemOfLawfulBEq _ instBEqOfDecidableEq inferInstance s L
def ky(s:ByteArray):Lit:= .string s.data.toList
theorem Fx(s:ByteArray):WideAt.IsKeyLit (ky s):=trivial
theorem TK{a b:ByteArray}(h:a.data.toList=b.data.toList):a=b:=by
 cases a;cases b;simp only[ByteArray.mk.injEq];exact Array.toList_inj.1 h
theorem Mz{a b:ByteArray}(h:ky a=ky b):a=b:=TK (by simpa[ky]using h)
theorem MA{a b:ByteArray}(h:a≠b):ky a≠ky b:=fun e=>h (Mz e)
def gR(w:World)(P:Program)(k:TypeId)(R:Value→Option (DataW Unit×List MemPlace))(b:Nat)(L:List ByteArray)(f:ByteArray→DataW Unit):Prop:=
 L.Nodup∧(∀ s∈L,s.size≤maxLen)∧∃ D,w.ownsMap P k R b L.length D∧(∀ s,s.size≤maxLen→has D (ky s)=decide (s∈L))∧∀ s∈L,∀ z,D.atKey (ky s) z=f s
def ins(L:List ByteArray)(s:ByteArray):List ByteArray:=if s∈L then L else L++[s]
theorem Br{L:List ByteArray}{s x:ByteArray}:x∈ins L s↔x=s∨x∈L:=by
 unfold ins
 split
 ·rename_i h;constructor
  ·exact .inr
  ·rintro(rfl|h');exact h;exact h'
 ·simp[or_comm]
theorem aaY{L:List ByteArray}{s:ByteArray}(h:L.Nodup):(ins L s).Nodup:=by
 unfold ins
 split
 ·exact h
 ·rename_i hn
  exact XT.2 ⟨h,by simp,fun a ha b hb e=>by rw[Y3]at hb;subst hb;subst e;exact hn ha⟩
section
variable {P:Program}{k:TypeId}{R:Value→Option (DataW Unit×List MemPlace)}{w:World}{b:Nat}{L:List ByteArray}{f:ByteArray→DataW Unit}
theorem gR.lt(h:gR w P k R b L f):b<w.heap.size:=let⟨_,_,_,h,_⟩:=h;h.lt
theorem gR.kept{w':World}{row:Option Nat}(h:gR w P k R b L f)(hg:w.grownBy w' row)(aQ:some b≠row):gR w' P k R b L f:=by
 obtain⟨h1,h2,D,h3,h4,h5⟩:=h;exact⟨h1,h2,D,h3.kept hg aQ,h4,h5⟩
theorem gR.alloc(h:gR w P k R b L f)(o:Obj):gR (w.alloc o) P k R b L f:=h.kept (World.grownBy_alloc w o none) (by simp)
theorem gR.block{w':World}(h:gR w P k R b L f)(hb:w'.heap[b]? =w.heap[b]?):gR w' P k R b L f:=by
 obtain⟨h1,h2,D,⟨es,c,h3,h6⟩,h4,h5⟩:=h;exact⟨h1,h2,D,⟨es,c,hb.trans h3,h6⟩,h4,h5⟩
theorem gR.congr{f':ByteArray→DataW Unit}(h:gR w P k R b L f)(hf:∀ s∈L,f s=f' s):gR w P k R b L f':=by
 obtain⟨h1,h2,D,h3,h4,h5⟩:=h;exact⟨h1,h2,D,h3,h4,fun s hs z=>(h5 s hs z).trans (hf s hs)⟩
theorem gR.store{w':World}{s:ByteArray}{D:DataW Unit}{d:DataW Unit}(h1:L.Nodup)(h2:∀ s∈L,s.size≤maxLen)(hm:IsMap D)(h4:∀ s,s.size≤maxLen→has D (ky s)=decide (s∈L))(h5:∀ s∈L,∀ z,D.atKey (ky s) z=f s)
  (hs:s.size≤maxLen) (h:w'.ownsMap P k R b (L.length+1) (D.put (ky s) d)) (K:Keyed P k) (hT:Tidy D) (hn:size D≤L.length):gR w' P k R b (ins L s) (fun x=>if x=s then d else f x):=by
 have hz:size (D.put (ky s) d)≤(ins L s).length:=by
  rw[size_put hT,h4 s hs]
  unfold ins
  by_cases hm:s∈L
  ·simpa[hm]using hn
  ·simpa[hm]using hn
 refine⟨aaY h1,fun x hx=> ?_,D.put (ky s) d,?_,fun x hx=> ?_,fun x hx z=> ?_⟩
 ·rcases Br.1 hx with rfl|hx
  ·exact hs
  ·exact h2 x hx
 ·obtain⟨es,c,a1,a2,a3,a4⟩:=h
  refine⟨es,c,a1,a2,?_,a4⟩
  have e:size (D.put (ky s) d)=es.size:=by rw[a4,size_eq,length_read]
  omega
 ·by_cases e:x=s
  ·subst e
   rw[has_put_same hm (Fx _)]
   simp[Br]
  ·rw[has_put_other (MA e),h4 x hx]
   simp[Br,e]
 ·by_cases e:x=s
  ·subst e
   rw[atKey_put_same hm (Fx _)];exact(if_pos rfl).symm
  ·rw[atKey_put_other (MA e)]
   rcases Br.1 hx with hx|hx
   ·exact absurd hx e
   ·exact(h5 x hx z).trans (if_neg e).symm
end
section
variable {P:Program}{k:TypeId}(hk:P.underlying k=some .string)
variable {ops:Array Oper}{rest:List Oper}{o:Oper}{a:Act}{Q:Exit→Act→World→Prop}
def pJ(w:World)(P:Program)(k:TypeId)(R:Value→Option (DataW Unit×List MemPlace))(b r:Nat)(L:List ByteArray)(f:ByteArray→DataW Unit)(left:ByteArray→Prop)(cZ:Nat):Prop:=
 L.Nodup∧(∀ s∈L,s.size≤maxLen)∧∃ D lf,w.ranges P k R b r L.length D lf cZ∧(∀ s,s.size≤maxLen→has D (ky s)=decide (s∈L))∧(∀ s∈L,∀ z,D.atKey (ky s) z=f s)∧∀ s,s.size≤maxLen→(lf (ky s)=true↔left s)
theorem pJ.gR{w:World}{R:Value→Option (DataW Unit×List MemPlace)}{b r:Nat}{L:List ByteArray}{f:ByteArray→DataW Unit}{left:ByteArray→Prop}{cZ:Nat}(h:pJ w P k R b r L f left cZ):gR w P k R b L f:=by
 obtain⟨h1,h2,D,lf,h3,h4,h5,_⟩:=h;exact⟨h1,h2,D,h3.owns,h4,h5⟩
theorem pJ.left_eq{w:World}{R:Value→Option (DataW Unit×List MemPlace)}{b r:Nat}{L:List ByteArray}{f:ByteArray→DataW Unit}{left:ByteArray→Prop}{cZ:Nat}(h:pJ w P k R b r L f left cZ):w.rangeLeft b r=cZ:=by
 obtain⟨h1,h2,D,lf,h3,_⟩:=h;exact h3.left_eq
theorem pJ.kept{w w':World}{R:Value→Option (DataW Unit×List MemPlace)}{b r:Nat}{L:List ByteArray}{f:ByteArray→DataW Unit}{left:ByteArray→Prop}{cZ:Nat}{row:Option Nat}(h:pJ w P k R b r L f left cZ)(hg:w.grownBy w' row)(hb:some b≠row)(hr:some r≠row):pJ w' P k R b r L f left cZ:=by
 obtain⟨h1,h2,D,lf,h3,h4,h5,h6⟩:=h;exact⟨h1,h2,D,lf,h3.kept hg hb hr,h4,h5,h6⟩
theorem pJ.iter{w:World}{R:Value→Option (DataW Unit×List MemPlace)}{b r:Nat}{L:List ByteArray}{f:ByteArray→DataW Unit}{left:ByteArray→Prop}{cZ:Nat}(h:pJ w P k R b r L f left cZ):∃ x y z u,w.heap[r]? =some (.mapIter x y z u):=by
 obtain⟨h1,h2,D,lf,⟨es,clock,since,seen,c0,_,_,_,_,h3,_⟩,_⟩:=h;exact⟨_,_,_,_,h3⟩
end
abbrev tt:DataW Unit:= .lit (.bool true)
def set(w:World)(P:Program)(k e:TypeId)(b:Nat)(L:List ByteArray):Prop:=gR w P k (plainElem P e) b L fun _=>tt
section
variable {P:Program}{k e:TypeId}{ops:Array Oper}{rest:List Oper}{o:Oper}{a:Act}{Q:Exit→Act→World→Prop}
end
section
variable {P:Program}{k e:TypeId}{ops:Array Oper}{rest:List Oper}{o:Oper}{a:Act}{Q:Exit→Act→World→Prop}
end
end Go.Tb
