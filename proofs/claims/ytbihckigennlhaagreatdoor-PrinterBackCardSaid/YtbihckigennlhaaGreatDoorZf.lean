/- bytes.IndexAny of a quote and a line's end: one byte; more than eight; joined. -/
import Derived.Test.YtbihckigennlhaaGreatDoorZb
import Derived.Deep.WholeRow
import Derived.Shelf.Small.Utf8
import Derived.Shelf.Small.Bits
import Derived.Shelf.Small.Strs
import Derived.Shelf.Small.Wraps
import Derived.Shelf.LaysM
import Derived.Shelf.LaysC
import Derived.Shelf.Sort.Plain
import Derived.Shelf.Slices.Turned
import Derived.Shelf.Slices.In.SortNone
import Derived.Test.YtbihckigennlhaaGreatDoorChecked
import Derived.Maps.OwnSet
import Derived.Maps.OwnOps
import Derived.Maps.RangeWalk
import Derived.Sort.MapsRangeIn
import Derived.Sort.KeysCollected
import Derived.Carry
import Derived.OwnWalk
import Derived.Maps.AppendAt
import Derived.WalkKit
set_option linter.unusedSimpArgs false
set_option linter.unusedVariables false
set_option linter.unusedSectionVars false
set_option maxRecDepth 100000
set_option maxHeartbeats 8000000
namespace Go.Proofs.YtbihckigennlhaaGreatDoor
section
open Go.Sx Go.Proofs Go.RowKit
theorem stepV_at{x:Nat}(h:x<256):(stepV 2)[x]? =some (.v (.bool (hitB (UInt8.ofNat x)))):=by
 have key:∀ x:Fin 256,hitB (UInt8.ofNat x.val)=decide (x.val=34∨x.val=10):=by decide
 have k2:=key ⟨x,h⟩
 simp only at k2
 rw[k2]
 show((f256.set 34 (.v (.bool true))).set 10 (.v (.bool true)))[x]? =_
 rw[List.getElem?_set,List.getElem?_set]
 have hl:f256.length=256:=rfl
 have h0:f256[x]? =some (.v (.bool false)):=by
  show(List.replicate 256 _)[x]? =_
  rw[List.getElem?_replicate,if_pos h]
 split
 ·rename_i e;subst e
  rw[if_pos (by decide)];simp
 ·split
  ·rename_i e1 e2;subst e2
   rw[if_pos (by decide)];simp
  ·rename_i e1 e2
   rw[h0,decide_eq_false (by omega)]
theorem setW{M:Mem}{w0:Base}{w w2:World}{σ:Store}(hI:Inv Tryz.prog M w0 σ w)(hb:Below w.heap.size w w2):
  Calls Tryz.prog 140 #[.string qn] w2 fun e w'=>(∃ cs:Array Value,e= .returned (.tuple #[.agg cs,.bool true])∧cs.size=256∧∀ c:UInt8,cs[c.toNat]? =some (.bool (hitB c)))∧Below w2.heap.size w2 w':=by
 have h:=set_ok.sp [] M ⟨w2,M⟩ w2 [.string qn] (inv_start (hI.after hb)) (.cons (.v _) .nil)
 refine h.mono fun e w' ⟨M',r,σ',_,hI',hr,hq,_⟩=> ?_
 subst hq
 refine⟨?_,⟨hI'.os,hI'.tape,hI'.output,hI'.size,hI'.old⟩⟩
 cases e<;>simp only[RRes]at hr
 obtain⟨cs,rfl,hR⟩:=hr.of_tup
 obtain⟨v1,vs,rfl,h1,h2⟩:=hR.uncons
 obtain⟨v2,rfl,h3⟩:=h2.un1
 obtain rfl:=h3.of_v
 obtain⟨cs,rfl,h4⟩:=h1.of_agg
 refine⟨cs.toArray,rfl,?_,fun c=> ?_⟩
 ·have:=h4.1
  rw[stepV_len]at this
  simpa using this.symm
 ·obtain⟨v,hv,hR⟩:=h4.get (stepV_at c.toNat_lt)
  have:=hR.of_v
  subst this
  rw[List.getElem?_toArray,hv]
  simp
end
section
open Go.RowKit Go.Proofs
theorem containsW{w:World}{B x:Nat}{y:Bool}(hx:x<256)(hc:w.cell? ⟨B,x,none⟩=some (.bool y)):Calls Tryz.prog 141 #[.pointer (some ⟨B,0,none⟩),.int .u8 x] w fun e w'=>e= .returned (.bool y)∧w'=w:=by
 have hx':(x:Int)<256:=by omega
 go_enter Tryz.func141,Tryz.ntmps141
 go_wp2
 go_ret
 exact⟨rfl,rfl⟩
theorem any_one{w:World}{b off cap:Nat}{l:List UInt8}(h1:l.length=1)(hcap:l.length≤cap)(hmax:cap≤maxLen)(hb:b<w.heap.size)
  (hc:w.cell? ⟨b,off,none⟩=some (.int .u8 (l.getD 0 0).toNat)):
  Calls Tryz.prog 96 #[.slice (some ⟨b,off,none⟩) l.length cap,.string qn] w fun e w'=>e= .returned (.int .i64 (anyQ l))∧Below w.heap.size w w':=by
 have hemp:qn.toList.isEmpty=false:=by rw[Lib.toList_data];rfl
 obtain⟨c,hcc⟩:∃ c,l.getD 0 0=c:=⟨_,rfl⟩
 have hix:=fun w=>indexW c w
 have hq:=idx_qn c
 have hx256:c.toNat<256:=c.toNat_lt
 have hn0:=nxt0
 have hn1':=nxt1
 have hn2:=nxt2
 have hN1:hitB c=true→anyQ l=0:=fun h=>anyQ_hit (k:=0) (by omega) (NoHit.zero l) (by rw[hcc];exact h)
 have hN2:hitB c=false→anyQ l= -1:=fun h=>anyQ_none (by rw[h1];exact NoHit.succ (NoHit.zero l) (by rw[hcc];exact h))
 have hlt:= @hit_lt c
 rw[hcc]at hc
 obtain⟨x,hx⟩:∃ x,c.toNat=x:=⟨_,rfl⟩
 rw[hx]at hc hix hx256 hlt
 have hw32:=w32 hx256
 rw[h1]
 obtain⟨y,hy⟩:∃ y,Lib.indexByte qn.data.toList c=y:=⟨_,rfl⟩
 rw[hy]at hq hix
 obtain⟨q,hqe⟩:∃ q,qn=q:=⟨_,rfl⟩
 rw[hqe]at hemp hix hn0 hn1' hn2 ⊢
 clear hqe hcc hx hy
 by_cases ha:x<128
 ·have ha':((x:Int)<128):=by omega
  clear hn0 hn1' hn2 hlt
  cases hh:hitB c
  ·have hA:=hN2 hh
   rw[hh]at hq
   have hq:¬(0≤y):=of_decide_eq_false hq
   clear hN1 hN2
   go_enter Tryz.func96,Tryz.ntmps96
   go_wp2
   go_ret
   exact⟨by first|rfl|fail,Below.refl _ _⟩
  ·have hA:=hN1 hh
   rw[hh]at hq
   have hq:0≤y:=of_decide_eq_true hq
   clear hN1 hN2
   go_enter Tryz.func96,Tryz.ntmps96
   go_wp2
   go_ret
   exact⟨by(rw[hA];rfl),Below.refl _ _⟩
 ·have ha':¬((x:Int)<128):=by omega
  have hA:=hN2 (hlt (by omega))
  clear hN1 hN2 hlt hix hq
  have hn0':=hn0 w
  have hn1'':=hn1' w
  have hn2':=hn2 w
  have hb3:Below w.heap.size w (w.iter q 2):=(Below.refl _ _).alloc (Nat.le_refl _) _
  clear hn0 hn1' hn2
  go_enter Tryz.func96,Tryz.ntmps96
  go_wp2
  refine wp_loop_rounds 3 ?_
  rw[rounds_succ]
  go_wp2
  rw[rounds_succ]
  go_wp2
  rw[rounds_succ]
  go_wp2
  go_ret
  exact⟨by(rw[hA];rfl),hb3⟩
set_option maxHeartbeats 40000000 in
theorem any_big{w:World}{b off cap:Nat}{l:List UInt8}(h8:8<l.length)(hlm:l.length≤16384)(hcap:l.length≤cap)(hmax:cap≤maxLen)(hb:b<w.heap.size)
  (hc:∀ i,i<l.length→w.cell? ⟨b,off+i,none⟩=some (.int .u8 (l.getD i 0).toNat))
  (hS:Calls Tryz.prog 140 #[.string qn] w fun e w'=>(∃ cs:Array Value,e= .returned (.tuple #[.agg cs,.bool true])∧cs.size=256∧∀ c:UInt8,cs[c.toNat]? =some (.bool (hitB c)))∧Below w.heap.size w w'):
  Calls Tryz.prog 96 #[.slice (some ⟨b,off,none⟩) l.length cap,.string qn] w fun e w'=>e= .returned (.int .i64 (anyQ l))∧Below w.heap.size w w':=by
 have hn1:((l.length:Int) == 1)=false:=beq_eq_false_iff_ne.2 (by omega)
 have h8z:decide ((8:Int)<(l.length:Int))=true:=decide_eq_true (by omega)
 have hemp:qn.toList.isEmpty=false:=by rw[Lib.toList_data];rfl
 have hqs:qn.size=2:=rfl
 obtain⟨q,hqe⟩:∃ q,qn=q:=⟨_,rfl⟩
 rw[hqe]at hemp hqs hS ⊢
 clear hqe
 go_enter Tryz.func96,Tryz.ntmps96
 go_wp2_with (first|(go_at_call 139;refine(shouldW _ _).mono ?_;rintro e w' ⟨rfl,hw⟩;rw[hw,h8z])|(go_at_call 140;refine hS.mono ?_;rintro e w2 ⟨⟨cs,rfl,hcs,hcx⟩,hb2⟩))
 have hone:cs.all (·.oneCell')=true:=by
  rw[Array.all_eq_true]
  intro i hi
  have h1:=hcx (UInt8.ofNat i)
  rw[show(UInt8.ofNat i).toNat=i by simp;omega,Array.getElem?_eq_getElem hi,Option.some.injEq]at h1
  rw[h1];rfl
 have hinf:(Tryz.prog.info? 175).map (·.size)=some 256:=by kernel_rfl
 have hzs:Tryz.zeroCells175.size=256:=by kernel_rfl
 rw[run_storeCells_new w2 175 Tryz.zeroCells175 cs (by rw[hcs];exact hinf) (by rw[hcs];exact hzs) hone]
 simp only[Result.andThen]
 rw[Oper.upon_skip]
 have hcell:∀ c:UInt8,(w2.alloc (.cells cs 175)).cell? ⟨w2.heap.size,c.toNat,none⟩=some (.bool (hitB c)):=fun c=>by
  rw[cell_of_row _ _ c.toNat cs 175 (0,0) (heap_alloc_last w2 _)];exact hcx c
 have hB:Below w.heap.size w (w2.alloc (.cells cs 175)):=hb2.alloc hb2.size _
 have hby:∀ i,i<l.length→(w2.alloc (.cells cs 175)).cell? ⟨b,off+i,none⟩=some (.int .u8 (l.getD i 0).toNat):=fun i hi=>by rw[hB.cell hb];exact hc i hi
 obtain⟨w3,hw3⟩:∃ w3,w2.alloc (.cells cs 175)=w3:=⟨_,rfl⟩
 rw[hw3]at hcell hB hby ⊢
 obtain⟨B2,hB2⟩:∃ B2,w2.heap.size=B2:=⟨_,rfl⟩
 rw[hB2]at hcell ⊢
 clear hcx hone hinf hzs hw3 hS hc hb2 hcs
 go_wp2
 go_loop [62] (fun i=>∃ k:Nat,i= .int .i64 k∧k≤l.length∧NoHit l k) (fun i=>l.length-(intOf i).toNat)
 case atStart=>exact⟨0,rfl,by omega,NoHit.zero l⟩
 case round=>
  obtain⟨k,rfl,hk,hno⟩:=hrel
  by_cases hkl:k<l.length
  ·have hck:=hby k hkl
   have hd:((k:Int)<(l.length:Int)):=by omega
   obtain⟨c,hcc⟩:∃ c,l.getD k 0=c:=⟨_,rfl⟩
   have hcl:=hcell c
   have hx256:c.toNat<256:=c.toNat_lt
   rw[hcc]at hck
   obtain⟨x,hx⟩:∃ x,c.toNat=x:=⟨_,rfl⟩
   rw[hx]at hck hcl hx256
   have hC:=containsW hx256 hcl
   have HN:Asi (NoHit l k):=hno
   have HB:Asi (Below w.heap.size w w3):=hB
   have HC:Asi (l.getD k 0=c):=hcc
   clear hno hby hcc hB hcell hcl
   cases hh:hitB c
   ·rw[hh]at hC
    go_wp2_with (go_at_call 141;refine hC.mono ?_;rintro e w' ⟨rfl,hw⟩;rw[hw])
    go_round
    case measure=>first|(simp only[intOf];omega)|fail
    case rel=>exact⟨k+1,by first|(push_cast;rfl)|fail,by omega,NoHit.succ HN (by rw[HC];exact hh)⟩
   ·rw[hh]at hC
    have hA:anyQ l=k:=anyQ_hit hkl HN (by rw[HC];exact hh)
    go_wp2_with (go_at_call 141;refine hC.mono ?_;rintro e w' ⟨rfl,hw⟩;rw[hw])
    go_ret
    exact⟨by(rw[hA];rfl),HB⟩
  ·have hd:¬((k:Int)<(l.length:Int)):=by omega
   obtain rfl:k=l.length:=by omega
   have hA:=anyQ_none hno
   clear hby hcell
   go_wp2
   go_ret
   exact⟨by first|rfl|fail,hB⟩
theorem any_nil{w:World}(a:Option Addr):Calls Tryz.prog 96 #[.slice a 0 0,.string qn] w fun e w'=>e= .returned (.int .i64 (anyQ []))∧Below w.heap.size w w':=by
 have hemp:qn.toList.isEmpty=false:=by rw[Lib.toList_data];rfl
 have hqs:qn.size=2:=rfl
 have hA:anyQ []= -1:=by decide
 obtain⟨q,hqe⟩:∃ q,qn=q:=⟨_,rfl⟩
 rw[hqe]at hemp hqs ⊢
 clear hqe
 go_enter Tryz.func96,Tryz.ntmps96
 go_wp2_with (go_at_call 139;refine(shouldW _ _).mono ?_;rintro e w' ⟨rfl,hw⟩;rw[hw])
 refine wp_loop_rounds 1 ?_
 rw[rounds_succ]
 go_wp2
 go_ret
 exact⟨by first|rfl|fail,Below.refl _ _⟩
end
section
open Go.Sx Go.Proofs Go.RowKit
theorem tabs_of{M:Mem}{w0:Base}{w:World}{σ:Store}(hI:Inv Tryz.prog M w0 σ w):Lib.Utf8Tabs 5 6 w:=by
 constructor
 ·intro c hc
  obtain⟨b,off,cs,hv,hM,hR⟩:=(hI.gl 5 _ rfl).of_pc
  cases hv
  have hl:((List.range 256).map fun c=>AV.v (.int .u8 (Lib.firstT c:Nat))).length=256:=by simp
  have h1:=hI.imm _ _ _ (hM c (by rw[hl];exact hc))
  have h2:=(hR c (by rw[hl];exact hc))
  rw[Nat.zero_add]at h1
  rw[h1]
  simp only[List.getElem_map,List.getElem_range]at h2
  rw[h2.of_v]
 ·intro i hi
  obtain⟨b,off,cs,hv,hM,hR⟩:=(hI.gl 6 _ rfl).of_pc
  cases hv
  have key:∀ i:Fin 16,((List.range 16).flatMap fun i=>[AV.v (.int .u8 (Lib.accLo i:Nat)),AV.v (.int .u8 (Lib.accHi i:Nat))])[2 * i.val]? =some (AV.v (.int .u8 (Lib.accLo i.val:Nat)))∧
    ((List.range 16).flatMap fun i=>[AV.v (.int .u8 (Lib.accLo i:Nat)),AV.v (.int .u8 (Lib.accHi i:Nat))])[2 * i.val+1]? =some (AV.v (.int .u8 (Lib.accHi i.val:Nat))):=by
   rintro⟨i,hi⟩
   have:i=0∨i=1∨i=2∨i=3∨i=4∨i=5∨i=6∨i=7∨i=8∨i=9∨i=10∨i=11∨i=12∨i=13∨i=14∨i=15:=by omega
   rcases this with rfl|rfl|rfl|rfl|rfl|rfl|rfl|rfl|rfl|rfl|rfl|rfl|rfl|rfl|rfl|rfl<;>exact⟨rfl,rfl⟩
  obtain⟨k1,k2⟩:=key ⟨i,hi⟩
  have one:∀ {j:Nat} {v:Value},((List.range 16).flatMap fun i=>[AV.v (.int .u8 (Lib.accLo i:Nat)),AV.v (.int .u8 (Lib.accHi i:Nat))])[j]? =some (AV.v v)→w.cell? ⟨6,j,none⟩=some v:=fun {j v} hj=>by
   obtain⟨hj1,hj2⟩:=List.getElem?_eq_some_iff.1 hj
   have h1:=hI.imm _ _ _ (hM j hj1)
   have h2:=hR j hj1
   rw[Nat.zero_add]at h1
   rw[hj2]at h2
   rw[h1,h2.of_v]
  exact⟨one k1,one k2⟩
theorem anyOk:AnyOk:=by
 intro l nn hl
 refine Pure.shelf fun M w0 w σ cs hI hR=> ?_
 obtain⟨v1,vs,rfl,h1,h2⟩:=hR.uncons
 obtain⟨v2,rfl,h3⟩:=h2.un1
 obtain rfl:=h3.of_v
 have fin:∀ {e w'},e=Ending.returned (.int .i64 (anyQ l))∧Below w.heap.size w w'→(∃ v,e= .returned v∧R M (iv (anyQ l)) v)∧Below w.heap.size w w':=fun⟨he,hb⟩=>⟨⟨_,he,.v _⟩,hb⟩
 rcases h1.of_sl with⟨a,_,h0,rfl⟩|⟨b,off,cap,cs,rfl,hr,h4,h5⟩
 ·obtain rfl:=List.map_eq_nil_iff.1 h0
  exact(any_nil a).mono fun e w' h=>fin h
 have hlen:(l.map byteRow).length=l.length:=List.length_map _
 rw[hlen]at h4 ⊢
 have hc:∀ i,i<l.length→w.cell? ⟨b,off+i,none⟩=some (.int .u8 (l.getD i 0).toNat):=fun i hi=>by
  have h6:=hI.imm _ _ _ (hr.mem i (by omega))
  have h7:=hr.rel i (by omega) 0 (by simp[byteRow])
  simp only[List.getElem_map,byteRow,List.getElem_cons_zero,Nat.mul_one,Nat.add_zero]at h7
  rw[h6,h7.of_v]
  simp[List.getD_eq_getElem?_getD,hi]
 have hb:0<l.length→b<w.heap.size:=fun h=>block_lt_of_cell (hc 0 h)
 obtain⟨m,hm⟩:=maxLen_of hI
 by_cases e1:l.length=1
 ·exact(any_one e1 h4 h5 (hb (by omega)) (hc 0 (by omega))).mono fun e w' h=>fin h
 ·by_cases e8:l.length≤8
  ·exact(any_small e1 e8 h4 h5 hb hc (tabs_of hI) hm).mono fun e w' h=>fin h
  ·exact(any_big (by omega) hl h4 h5 (hb (by omega)) hc (setW hI (Below.refl _ _))).mono fun e w' h=>fin h
end
end Go.Proofs.YtbihckigennlhaaGreatDoor
namespace Go.Proofs
open Go.Shelf
def Tryz.lays190_ren:Go.Shelf.Ren:=⟨fun|190=>209|125=>228|258=>227|128=>247|129=>214|302=>238|303=>239|304=>240|305=>241|306=>242|307=>243|308=>244|309=>245|310=>246|333=>250|329=>251|330=>252|334=>253|335=>254|336=>255|344=>257|n=>n,fun|31=>128|9=>9|3=>3|46=>206|0=>0|51=>231|53=>210|4=>4|183=>263|182=>262|131=>144|5=>5|218=>272|222=>276|228=>278|229=>279|n=>n,fun|n=>n⟩
theorem Tryz.lays190:Go.Proofs.Lays.n190 Tryz.prog Tryz.lays190_ren:={
 mixed:=by kernel_rfl
 f125:=Tryz.func228.trans (congrArg some (by kernel_rfl))
 f128:=Tryz.func247.trans (congrArg some (by kernel_rfl))
 f129:=Tryz.func214.trans (congrArg some (by kernel_rfl))
 f190:=Tryz.func209.trans (congrArg some (by kernel_rfl))
 f258:=Tryz.func227.trans (congrArg some (by kernel_rfl))
 f302:=Tryz.func238.trans (congrArg some (by kernel_rfl))
 f303:=Tryz.func239.trans (congrArg some (by kernel_rfl))
 f304:=Tryz.func240.trans (congrArg some (by kernel_rfl))
 f305:=Tryz.func241.trans (congrArg some (by kernel_rfl))
 f306:=Tryz.func242.trans (congrArg some (by kernel_rfl))
 f307:=Tryz.func243.trans (congrArg some (by kernel_rfl))
 f308:=Tryz.func244.trans (congrArg some (by kernel_rfl))
 f309:=Tryz.func245.trans (congrArg some (by kernel_rfl))
 f310:=Tryz.func246.trans (congrArg some (by kernel_rfl))
 f329:=Tryz.func251.trans (congrArg some (by kernel_rfl))
 f330:=Tryz.func252.trans (congrArg some (by kernel_rfl))
 f333:=Tryz.func250.trans (congrArg some (by kernel_rfl))
 f334:=Tryz.func253.trans (congrArg some (by kernel_rfl))
 f335:=Tryz.func254.trans (congrArg some (by kernel_rfl))
 f336:=Tryz.func255.trans (congrArg some (by kernel_rfl))
 f344:=Tryz.func257.trans (congrArg some (by kernel_rfl))
 t0:=Tryz.underlying0
 a0:=Tryz.isAgg0
 z0:=Tryz.sizeOf0
 v0:=Tryz.zeroValue0
 t3:=Tryz.underlying3
 a3:=Tryz.isAgg3
 z3:=Tryz.sizeOf3
 v3:=Tryz.zeroValue3
 t4:=Tryz.underlying4
 a4:=Tryz.isAgg4
 z4:=Tryz.sizeOf4
 v4:=Tryz.zeroValue4
 t5:=Tryz.underlying5
 a5:=Tryz.isAgg5
 z5:=Tryz.sizeOf5
 v5:=Tryz.zeroValue5
 t9:=Tryz.underlying9
 a9:=Tryz.isAgg9
 z9:=Tryz.sizeOf9
 v9:=Tryz.zeroValue9
 t31:=Tryz.underlying128
 a31:=Tryz.isAgg128
 z31:=Tryz.sizeOf128
 v31:=Tryz.zeroValue128
 t46:=Tryz.underlying206
 a46:=Tryz.isAgg206
 z46:=Tryz.sizeOf206
 v46:=Tryz.zeroValue206
 t51:=Tryz.underlying231
 a51:=Tryz.isAgg231
 z51:=Tryz.sizeOf231
 v51:=Tryz.zeroValue231
 t53:=Tryz.underlying210
 a53:=Tryz.isAgg210
 z53:=Tryz.sizeOf210
 v53:=Tryz.zeroValue210
 t131:=Tryz.underlying144
 a131:=Tryz.isAgg144
 z131:=Tryz.sizeOf144
 v131:=Tryz.zeroValue144
 t182:=Tryz.underlying262
 a182:=Tryz.isAgg262
 z182:=Tryz.sizeOf262
 v182:=Tryz.zeroValue262
 t183:=Tryz.underlying263
 a183:=Tryz.isAgg263
 z183:=Tryz.sizeOf263
 v183:=Tryz.zeroValue263
 t218:=Tryz.underlying272
 a218:=Tryz.isAgg272
 z218:=Tryz.sizeOf272
 v218:=Tryz.zeroValue272
 t222:=Tryz.underlying276
 a222:=Tryz.isAgg276
 z222:=Tryz.sizeOf276
 v222:=Tryz.zeroValue276
 t228:=Tryz.underlying278
 a228:=Tryz.isAgg278
 z228:=Tryz.sizeOf278
 v228:=Tryz.zeroValue278
 t229:=Tryz.underlying279
 a229:=Tryz.isAgg279
 z229:=Tryz.sizeOf279
 v229:=Tryz.zeroValue279}
open Go.Sort Go.RowKit in
theorem Tryz.slices_Sort_string(blk off cap:Nat)(ss:List (List UInt8))(w:World)(hH:Holds encStr w blk off ss.toArray)(hblk:blk<w.heap.size)(hsz:ss.length<4611686018427387904):
  Calls Tryz.prog 209 #[.slice (some ⟨blk,off,none⟩) ss.length cap] w fun e w'=>
   e= .returned (.tuple #[])∧∃ n os,w'=grow (putRow encStr (Sort.ahead w n) blk off (ss.mergeSort fun x y=>decide (x≤y)).toArray) os:=Any.slices_Sort_string Tryz.lays190 blk off cap ss w hH hblk hsz
open Go.RowKit Go.Sort in
theorem Tryz.slices_Sort_string_none(p:Option Addr)(cap:Nat)(w:World):
  Calls Tryz.prog 209 #[.slice p 0 cap] w fun e w'=>e= .returned (.tuple #[])∧w'=w:=Any.slices_Sort_string_none Tryz.lays190 p cap w
end Go.Proofs
namespace Go.Tb
open Go.Maps Go.RowKit
open Go.Proofs (encStr)
instance (s:ByteArray)(L:List ByteArray):Decidable (s∈L):= @List.instDecidableMemOfLawfulBEq _ instBEqOfDecidableEq inferInstance s L
def ky(s:ByteArray):Lit:= .string s.data.toList
theorem ky_key(s:ByteArray):WideAt.IsKeyLit (ky s):=trivial
theorem ba_ext{a b:ByteArray}(h:a.data.toList=b.data.toList):a=b:=by
 cases a;cases b;simp only[ByteArray.mk.injEq];exact Array.toList_inj.1 h
theorem ky_inj{a b:ByteArray}(h:ky a=ky b):a=b:=ba_ext (by simpa[ky]using h)
theorem ky_ne{a b:ByteArray}(h:a≠b):ky a≠ky b:=fun e=>h (ky_inj e)
def tbl(w:World)(P:Program)(k:TypeId)(R:Value→Option (DataW Unit×List MemPlace))(b:Nat)(L:List ByteArray)(f:ByteArray→DataW Unit):Prop:=
 L.Nodup∧(∀ s∈L,s.size≤maxLen)∧∃ D,w.ownsMap P k R b L.length D∧(∀ s,s.size≤maxLen→has D (ky s)=decide (s∈L))∧∀ s∈L,∀ z,D.atKey (ky s) z=f s
def ins(L:List ByteArray)(s:ByteArray):List ByteArray:=if s∈L then L else L++[s]
theorem ins_mem{L:List ByteArray}{s x:ByteArray}:x∈ins L s↔x=s∨x∈L:=by
 unfold ins
 split
 ·rename_i h;constructor
  ·exact .inr
  ·rintro(rfl|h');exact h;exact h'
 ·simp[or_comm]
theorem ins_nodup{L:List ByteArray}{s:ByteArray}(h:L.Nodup):(ins L s).Nodup:=by
 unfold ins
 split
 ·exact h
 ·rename_i hn
  exact List.nodup_append.2 ⟨h,by simp,fun a ha b hb e=>by rw[List.mem_singleton]at hb;subst hb;subst e;exact hn ha⟩
section
variable {P:Program}{k:TypeId}{R:Value→Option (DataW Unit×List MemPlace)}{w:World}{b:Nat}{L:List ByteArray}{f:ByteArray→DataW Unit}
theorem tbl.lt(h:tbl w P k R b L f):b<w.heap.size:=let⟨_,_,_,h,_⟩:=h;h.lt
theorem tbl.kept{w':World}{row:Option Nat}(h:tbl w P k R b L f)(hg:w.grownBy w' row)(hne:some b≠row):tbl w' P k R b L f:=by
 obtain⟨h1,h2,D,h3,h4,h5⟩:=h;exact⟨h1,h2,D,h3.kept hg hne,h4,h5⟩
theorem tbl.alloc(h:tbl w P k R b L f)(o:Obj):tbl (w.alloc o) P k R b L f:=h.kept (World.grownBy_alloc w o none) (by simp)
theorem tbl.block{w':World}(h:tbl w P k R b L f)(hb:w'.heap[b]? =w.heap[b]?):tbl w' P k R b L f:=by
 obtain⟨h1,h2,D,⟨es,c,h3,h6⟩,h4,h5⟩:=h;exact⟨h1,h2,D,⟨es,c,hb.trans h3,h6⟩,h4,h5⟩
theorem tbl.congr{f':ByteArray→DataW Unit}(h:tbl w P k R b L f)(hf:∀ s∈L,f s=f' s):tbl w P k R b L f':=by
 obtain⟨h1,h2,D,h3,h4,h5⟩:=h;exact⟨h1,h2,D,h3,h4,fun s hs z=>(h5 s hs z).trans (hf s hs)⟩
theorem tbl.store{w':World}{s:ByteArray}{D:DataW Unit}{d:DataW Unit}(h1:L.Nodup)(h2:∀ s∈L,s.size≤maxLen)(hm:IsMap D)(h4:∀ s,s.size≤maxLen→has D (ky s)=decide (s∈L))(h5:∀ s∈L,∀ z,D.atKey (ky s) z=f s)
  (hs:s.size≤maxLen) (h:w'.ownsMap P k R b (L.length+1) (D.put (ky s) d)) (K:Keyed P k) (hT:Tidy D) (hn:size D≤L.length):tbl w' P k R b (ins L s) (fun x=>if x=s then d else f x):=by
 have hz:size (D.put (ky s) d)≤(ins L s).length:=by
  rw[size_put hT,h4 s hs]
  unfold ins
  by_cases hm:s∈L
  ·simpa[hm]using hn
  ·simpa[hm]using hn
 refine⟨ins_nodup h1,fun x hx=> ?_,D.put (ky s) d,?_,fun x hx=> ?_,fun x hx z=> ?_⟩
 ·rcases ins_mem.1 hx with rfl|hx
  ·exact hs
  ·exact h2 x hx
 ·obtain⟨es,c,a1,a2,a3,a4⟩:=h
  refine⟨es,c,a1,a2,?_,a4⟩
  have e:size (D.put (ky s) d)=es.size:=by rw[a4,size_eq,length_read]
  omega
 ·by_cases e:x=s
  ·subst e
   rw[has_put_same hm (ky_key _)]
   simp[ins_mem]
  ·rw[has_put_other (ky_ne e),h4 x hx]
   simp[ins_mem,e]
 ·by_cases e:x=s
  ·subst e
   rw[atKey_put_same hm (ky_key _)];exact(if_pos rfl).symm
  ·rw[atKey_put_other (ky_ne e)]
   rcases ins_mem.1 hx with hx|hx
   ·exact absurd hx e
   ·exact(h5 x hx z).trans (if_neg e).symm
end
section
variable {P:Program}{k:TypeId}(hk:P.underlying k=some .string)
variable {ops:Array Oper}{rest:List Oper}{o:Oper}{a:Act}{Q:Exit→Act→World→Prop}
def rng(w:World)(P:Program)(k:TypeId)(R:Value→Option (DataW Unit×List MemPlace))(b r:Nat)(L:List ByteArray)(f:ByteArray→DataW Unit)(left:ByteArray→Prop)(cnt:Nat):Prop:=
 L.Nodup∧(∀ s∈L,s.size≤maxLen)∧∃ D lf,w.ranges P k R b r L.length D lf cnt∧(∀ s,s.size≤maxLen→has D (ky s)=decide (s∈L))∧(∀ s∈L,∀ z,D.atKey (ky s) z=f s)∧∀ s,s.size≤maxLen→(lf (ky s)=true↔left s)
theorem rng.tbl{w:World}{R:Value→Option (DataW Unit×List MemPlace)}{b r:Nat}{L:List ByteArray}{f:ByteArray→DataW Unit}{left:ByteArray→Prop}{cnt:Nat}(h:rng w P k R b r L f left cnt):tbl w P k R b L f:=by
 obtain⟨h1,h2,D,lf,h3,h4,h5,_⟩:=h;exact⟨h1,h2,D,h3.owns,h4,h5⟩
theorem rng.left_eq{w:World}{R:Value→Option (DataW Unit×List MemPlace)}{b r:Nat}{L:List ByteArray}{f:ByteArray→DataW Unit}{left:ByteArray→Prop}{cnt:Nat}(h:rng w P k R b r L f left cnt):w.rangeLeft b r=cnt:=by
 obtain⟨h1,h2,D,lf,h3,_⟩:=h;exact h3.left_eq
theorem rng.kept{w w':World}{R:Value→Option (DataW Unit×List MemPlace)}{b r:Nat}{L:List ByteArray}{f:ByteArray→DataW Unit}{left:ByteArray→Prop}{cnt:Nat}{row:Option Nat}(h:rng w P k R b r L f left cnt)(hg:w.grownBy w' row)(hb:some b≠row)(hr:some r≠row):rng w' P k R b r L f left cnt:=by
 obtain⟨h1,h2,D,lf,h3,h4,h5,h6⟩:=h;exact⟨h1,h2,D,lf,h3.kept hg hb hr,h4,h5,h6⟩
theorem rng.iter{w:World}{R:Value→Option (DataW Unit×List MemPlace)}{b r:Nat}{L:List ByteArray}{f:ByteArray→DataW Unit}{left:ByteArray→Prop}{cnt:Nat}(h:rng w P k R b r L f left cnt):∃ x y z u,w.heap[r]? =some (.mapIter x y z u):=by
 obtain⟨h1,h2,D,lf,⟨es,clock,since,seen,c0,_,_,_,_,h3,_⟩,_⟩:=h;exact⟨_,_,_,_,h3⟩
end
abbrev tt:DataW Unit:= .lit (.bool true)
def set(w:World)(P:Program)(k e:TypeId)(b:Nat)(L:List ByteArray):Prop:=tbl w P k (plainElem P e) b L fun _=>tt
section
variable {P:Program}{k e:TypeId}{ops:Array Oper}{rest:List Oper}{o:Oper}{a:Act}{Q:Exit→Act→World→Prop}
end
section
variable {P:Program}{k e:TypeId}{ops:Array Oper}{rest:List Oper}{o:Oper}{a:Act}{Q:Exit→Act→World→Prop}
end
end Go.Tb
