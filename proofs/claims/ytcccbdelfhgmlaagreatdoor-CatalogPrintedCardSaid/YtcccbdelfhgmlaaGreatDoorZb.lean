/- bytes.IndexAny of a quote and a line's end: plain facts. -/
import Derived.Test.YtcccbdelfhgmlaaGreatDoorVc
import Derived.Lib.RuneCountTail
import Derived.Lib.IndexBytes
import Derived.Lib.IndexAny
import Derived.Lib.IndexEntry
import Derived.Laws.Runes
import Derived.Handy
import Derived.BigFrame
import Derived.Shelf.Strings.IndexAny
import Derived.Test.YtcccbdelfhgmlaaGreatDoorGi
import Derived.Test.YtcccbdelfhgmlaaGreatDoorSxZ
set_option linter.unusedSimpArgs false
set_option linter.unusedVariables false
set_option maxRecDepth 100000
set_option maxHeartbeats 4000000
namespace Go.Proofs.YtcccbdelfhgmlaaGreatDoor
open Go.Sx Go.Proofs
def gB(c:UInt8):Bool:=c == 34 || c == 10
def fE(l:List UInt8)(k:Nat):Prop:=∀ i,i<k→gB (l.getD i 0)=false
theorem Uz(p:UInt8→Bool):∀ (l:List UInt8) (k:Nat),k<l.length→(∀ i,i<k→p (l.getD i 0)=true)→p (l.getD k 0)=false→aC p l=k
 |[],k,hk,_,_=>absurd hk (by simp)
 |a::l,0,_,_,h=>by
  have h:p a=false:=h
  simp[aC,Zl,h]
 |a::l,k+1,hk,hn,h=>by
  have h0:p a=true:=hn 0 (by omega)
  have:=Uz p l k (by simpa using hk) (fun i hi=>by have:=hn (i+1) (by omega);simpa using this) (by simpa using h)
  unfold aC at this ⊢
  rw[Zl,h0,Z8 rfl,Z6,this]
theorem aeR{l:List UInt8}{k:Nat}(hk:k<l.length)(h:gB (l.getD k 0)=true):34∈l∨10∈l:=by
 have e:l.getD k 0=l[k]:=by simp[ZY,hk]
 rw[e]at h
 have:=Zp hk
 simp only[gB,Y7,beq_iff_eq]at h
 rcases h with h|h
 ·exact .inl (h ▸ this)
 ·exact .inr (h ▸ this)
theorem GJ{l:List UInt8}{k:Nat}(hk:k<l.length)(hn:fE l k)(h:gB (l.getD k 0)=true):iy l=k:=by
 unfold iy
 rw[Z8 (aeR hk h)]
 refine Zy Int.ofNat (Uz _ l k hk (fun i hi=> ?_) ?_)
 ·have:=hn i hi
  simp only[gB,Bool.or_eq_false_iff,YT]at this
  rw[Z0]
  exact⟨bne_iff_ne.2 this.1,bne_iff_ne.2 this.2⟩
 ·simp only[gB,Y7,beq_iff_eq]at h
  rcases h with h|h<;>simp only[h]<;>decide
theorem GK{l:List UInt8}(hn:fE l l.length):iy l= -1:=by
 unfold iy
 rw[Z9]
 have key:∀ c:UInt8,c∈l→gB c=false:=fun c hc=>by
  obtain⟨i,hi,e⟩:=YK hc
  have:=hn i hi
  rwa [show l.getD i 0=c by simp[ZY,hi,e]]at this
 rintro(h|h)
 ·exact absurd (key _ h) (by decide)
 ·exact absurd (key _ h) (by decide)
theorem fE.zero(l:List UInt8):fE l 0:=fun i hi=>absurd hi (Nat.not_lt_zero i)
theorem fE.succ{l:List UInt8}{k:Nat}(h:fE l k)(hc:gB (l.getD k 0)=false):fE l (k+1):=fun i hi=>by
 rcases Nat.lt_succ_iff_lt_or_eq.1 hi with h1|rfl
 ·exact h i h1
 ·exact hc
theorem QD{c:UInt8}(h:128≤c.toNat):gB c=false:=by
 simp only[gB,Bool.or_eq_false_iff,YT]
 constructor
 all_goals
  rintro rfl
  revert h
  decide
theorem fE.more{l:List UInt8}{k n:Nat}(h:fE l k)(hc:∀ i,i<n→128≤(l.getD (k+i) 0).toNat):fE l (k+n):=fun i hi=>by
 by_cases h1:i<k
 ·exact h i h1
 ·have:=hc (i-k) (by omega)
  rw[show k+(i-k)=i by omega]at this
  exact QD this
def qn:ae:=⟨#[34,10]⟩
theorem RE(c:UInt8):decide (0≤Lib.indexByte qn.data.toList c)=gB c:=by
 rw[← Lib.contains_iff_indexByte]
 show([34,10]:List UInt8).contains c=_
 simp only[gB,List.contains_cons,List.contains_nil,Bool.or_false]
theorem ac3(r:Nat):(Utf8.encode (r:Int)).size=if(Utf8.valid (r:Int))=true then(if r<128 then 1 else if r<2048 then 2 else if r<65536 then 3 else 4)else(Utf8.encode (r:Int)).size:=by
 split
 ·rename_i h
  unfold Utf8.encode
  simp only[h,Y4,YN]
  repeat' split
  all_goals rfl
 ·rfl
theorem acG(l:List UInt8)(h0:0<l.length)(h1:128≤(l.getD 0 0).toNat):Lib.decodeGo ⟨l.toArray⟩=(65533,1)∨
  (2≤(Lib.decodeGo ⟨l.toArray⟩).2∧(Lib.decodeGo ⟨l.toArray⟩).2≤4∧(Lib.decodeGo ⟨l.toArray⟩).2≤l.length∧128≤(Lib.decodeGo ⟨l.toArray⟩).1∧(Lib.decodeGo ⟨l.toArray⟩).1≤1114111∧(Utf8.encode ((Lib.decodeGo ⟨l.toArray⟩).1:Int)).size=(Lib.decodeGo ⟨l.toArray⟩).2∧Utf8.valid ((Lib.decodeGo ⟨l.toArray⟩).1:Int)=true∧∀ k,k<(Lib.decodeGo ⟨l.toArray⟩).2→128≤(l.getD k 0).toNat):=by
 have hs:(⟨l.toArray⟩:ByteArray).size=l.length:=by simp[ByteArray.size]
 have hg:∀ i,(⟨l.toArray⟩:ByteArray).get! i=l.getD i 0:=fun i=>by rw[← Lib.getD_get!']
 unfold Lib.decodeGo
 rw[hs,Z9 (by omega),Lib.decode_at,hs,hg,hg,hg,hg]
 simp only[Zc,Nat.sub_zero]
 generalize e0:(l.getD 0 0).toNat=b0 at *
 generalize e1:(l.getD 1 0).toNat=b1 at *
 generalize e2:(l.getD 2 0).toNat=b2 at *
 generalize e3:(l.getD 3 0).toNat=b3 at *
 have q:∀ n,n≤4→∀ k,k<n→k=0∨k=1∨k=2∨k=3:=by omega
 have key:∀ (r n:Nat),2≤n→n≤4→n≤l.length→128≤r→r≤1114111→(r<55296∨57344≤r)→(n=2→r<2048)→(n=3→2048≤r∧r<65536)→(n=4→65536≤r)→(1<n→128≤b1)→(2<n→128≤b2)→(3<n→128≤b3)→
   (2≤n∧n≤4∧n≤l.length∧128≤r∧r≤1114111∧(Utf8.encode (r:Int)).size=n∧Utf8.valid (r:Int)=true∧∀ k,k<n→128≤(l.getD k 0).toNat):=by
  intro r n a1 a2 a3 a4 a5 a6 a7 a8 a9 c1 c2 c3
  have hv:Utf8.valid (r:Int)=true:=by
   unfold Utf8.valid
   simp only[Z0,Y7,Zq]
   omega
  refine⟨a1,a2,a3,a4,a5,?_,hv,fun k hk=> ?_⟩
  ·rw[ac3,Z8 hv,Z9 (by omega)]
   split
   ·omega
   ·split<;>omega
  ·rcases q n a2 k hk with rfl|rfl|rfl|rfl
   ·rw[e0];exact h1
   ·rw[e1];exact c1 (by omega)
   ·rw[e2];exact c2 (by omega)
   ·rw[e3];exact c3 (by omega)
 unfold Lib.decodeN
 rw[Z9 (by omega)]
 split
 ·rename_i h
  split
  ·exact .inr (key _ 2 (by omega) (by omega) (by omega) (by omega) (by omega) (by omega) (by omega) (by omega) (by omega) (by omega) (by omega) (by omega))
  ·exact .inl rfl
 ·split
  ·rename_i h
   split
   ·rename_i h2
    exact .inr (key _ 3 (by omega) (by omega) (by omega) (by omega) (by omega) (by omega) (by omega) (by omega) (by omega) (by omega) (by omega) (by omega))
   ·exact .inl rfl
  ·split
   ·rename_i h
    split
    ·rename_i h2
     exact .inr (key _ 4 (by omega) (by omega) (by omega) (by omega) (by omega) (by omega) (by omega) (by omega) (by omega) (by omega) (by omega) (by omega))
    ·exact .inl rfl
   ·exact .inl rfl
end Go.Proofs.YtcccbdelfhgmlaaGreatDoor
set_option linter.unusedSectionVars false
set_option maxHeartbeats 8000000
namespace Go.Proofs.YtcccbdelfhgmlaaGreatDoor
open Go.RowKit Go.Proofs
theorem KV(n:Int)(w:World):Calls Tryz.prog 142 #[.int .i64 n] w fun e w'=>e= .returned (.bool (decide (8<n)))∧w'=w:=by
 go_enter Tryz.func142,Tryz.ntmps142
 go_wp2
 go_ret
 exact⟨rfl,rfl⟩
theorem RI(c:UInt8)(w:World):(callFunc 140 #[.string qn,.int .u8 c.toNat]).run Tryz.prog w= .ok (.value (.int .i64 (Lib.indexByte qn.data.toList c))) w:=by
 rw[run_callFunc_extern Tryz.func140 (by kernel_rfl) (by kernel_rfl) (by kernel_rfl) (e:=Extern.BytealgIndexByte.indexByte) (by kernel_rfl),Lib.run_indexByteString]
 have:((c.toNat:Int).toNat.toUInt8)=c:=by simp
 rw[this]
 rfl
theorem Vz{x:Nat}(h:x<256):wrap32 (x:Int)=x:=by
 unfold wrap32
 omega
def uA(p:Prop):Prop:=p
theorem ahx{R:Nat}(hv:Utf8.valid (R:Int)=true)(h:128≤R):(qn.toList == (Utf8.encode (R:Int)).toList)=false:=by
 rw[Lib.toList_data,Lib.toList_data,YT]
 intro e
 have e2:qn=Utf8.encode (R:Int):=by
  cases h1:qn;cases h2:Utf8.encode (R:Int)
  rw[h1,h2]at e
  exact Zy ByteArray.mk (Array.toList_inj.1 e)
 obtain⟨_,_,h3⟩:=encode_facts (R:Int) hv (by omega)
 rw[← e2]at h3
 exact absurd (h3 (by decide)) (by decide)
theorem awK{R N:Nat}(w:World){m:Int}(hm:w.cell? ⟨3,0,none⟩=some (.int .i64 m))(hs:(Utf8.encode (R:Int)).size=N)(h3:3≤N)(hN:(N:Int)≤m):(callFunc 146 #[.string qn,.string (Utf8.encode (R:Int))]).run Tryz.prog w= .ok (.value (.int .i64 (-1))) w:=by
 rw[run_callFunc_extern Tryz.func146 (by kernel_rfl) (by kernel_rfl) (by kernel_rfl) (e:=Extern.BytealgIndex.index) (by kernel_rfl),Lib.run_indexString qn _ w 3 m (by kernel_rfl) hm (by omega) (by rw[hs];exact hN) (by decide)]
 have h4:Lib.index qn.data.toList (Utf8.encode (R:Int)).data.toList= -1:=Lib.long qn _ (by show 2≤_;omega) (by
  rw[Lib.toList_data,Lib.toList_data,YT]
  intro e
  have:=Zy List.length e
  rw[← Lib.size_eq,← Lib.size_eq,hs]at this
  have:N=2:=this
  omega)
 rw[h4]
 rfl
theorem acF{w:World}{b off cap:Nat}{l:List UInt8}(hT:Lib.Utf8Tabs 6 7 w)(hc:∀ i,i<l.length→w.cell? ⟨b,off+i,none⟩=some (.int .u8 (l.getD i 0).toNat)){k:Nat}(hk:k<l.length)(h1:128≤(l.getD k 0).toNat):
  ∃ R N:Nat,Calls Tryz.prog 145 #[.slice (some ⟨b,off+k,none⟩) (l.length-k) (cap-k)] w (fun e w'=>e= .returned (.tuple #[.int .i32 R,.int .i64 N])∧Below w.heap.size w w')∧128≤R∧1≤N∧k+N≤l.length∧(∀ i,i<N→128≤(l.getD (k+i) 0).toNat)∧
   (R=65533∨(R≠65533∧(Utf8.encode (R:Int)).size=N∧2≤N∧(qn.toList == (Utf8.encode (R:Int)).toList)=false)):=by
 have hs:(⟨(l.drop k).toArray⟩:ByteArray).size=l.length-k:=by simp[ByteArray.size]
 have hg:∀ i,(⟨(l.drop k).toArray⟩:ByteArray).get! i=l.getD (k+i) 0:=fun i=>by
  rw[← Lib.getD_get!']
  show(l.drop k).getD i 0=_
  simp[ZY]
 have s9:∀ i,(l.drop k).getD i 0=l.getD (k+i) 0:=fun i=>by simp[ZY]
 have oa:=Any7.utf8_DecodeRune acB ⟨(l.drop k).toArray⟩ b (off+k) (cap-k) w hT (fun j hj=>by
  rw[hs]at hj
  rw[hg,show off+k+j=off+(k+j) by omega]
  exact hc _ (by omega))
 rw[hs]at oa
 refine⟨_,_,oa,?_⟩
 rcases acG (l.drop k) (by simp;omega) (by rw[s9,YP];exact h1)with h|⟨h2,h3,h4,h5,h6,h7,h8,h9⟩
 ·rw[h]
  refine⟨by decide,ZR _,hk,fun i hi=> ?_,.inl rfl⟩
  have dk:i<1:=hi
  obtain rfl:i=0:=by omega
  exact h1
 ·rw[Zj]at h4
  refine⟨h5,by omega,by omega,fun i hi=>by rw[← s9];exact h9 i hi,?_⟩
  by_cases hR:(Lib.decodeGo ⟨(l.drop k).toArray⟩).1=65533
  ·exact .inl hR
  ·exact .inr ⟨hR,h7,h2,ahx h8 h5⟩
theorem SK(w:World)(ty:TypeId):(Instr.next (.pointer (some ⟨w.heap.size,0,none⟩)) true ty).run Tryz.prog (w.iter qn 0)= .ok (.tuple #[.bool true,.int .i64 0,.int .i32 34]) (w.iter qn 1):=run_next_ascii w qn 0 ty (by decide) (by decide)
theorem SL(w:World)(ty:TypeId):(Instr.next (.pointer (some ⟨w.heap.size,0,none⟩)) true ty).run Tryz.prog (w.iter qn 1)= .ok (.tuple #[.bool true,.int .i64 1,.int .i32 10]) (w.iter qn 2):=run_next_ascii w qn 1 ty (by decide) (by decide)
theorem SM(w:World)(ty:TypeId):(Instr.next (.pointer (some ⟨w.heap.size,0,none⟩)) true ty).run Tryz.prog (w.iter qn 2)= .ok (.tuple #[.bool false]) (w.iter qn 2):=run_next_end w qn 2 ty (by decide)
theorem aw0{w w':World}(hT:Lib.Utf8Tabs 6 7 w)(hb:Below w.heap.size w w'):Lib.Utf8Tabs 6 7 w':=by
 refine⟨fun c h=> ?_,fun i h=>⟨?_,?_⟩⟩
 ·have:=hT.1 c h;rw[hb.cell (block_lt_of_cell this)];exact this
 ·have:=(hT.2 i h).1;rw[hb.cell (block_lt_of_cell this)];exact this
 ·have:=(hT.2 i h).2;rw[hb.cell (block_lt_of_cell this)];exact this
set_option maxHeartbeats 1000000 in
theorem aa7{w:World}{b off cap:Nat}{l:List UInt8}(h1:l.length≠1)(h8:l.length≤8)(mU:l.length≤cap)(kV:cap≤maxLen)(hb:0<l.length→b<w.heap.size)
  (hc:∀ i,i<l.length→w.cell? ⟨b,off+i,none⟩=some (.int .u8 (l.getD i 0).toNat)) (hT:Lib.Utf8Tabs 6 7 w) {m:Int} (hm:w.cell? ⟨3,0,none⟩=some (.int .i64 m)):
  Calls Tryz.prog 107 #[.slice (some ⟨b,off,none⟩) l.length cap,.string qn] w fun e w'=>e= .returned (.int .i64 (iy l))∧Below w.heap.size w w':=by
 have oq:((l.length:Int) == 1)=false:=YT.2 (by omega)
 have Ic:decide ((8:Int)<(l.length:Int))=false:=Zn (by omega)
 have vo:qn.toList.isEmpty=false:=by rw[Lib.toList_data];rfl
 have BF:qn.size=2:=rfl
 have kN:=block_lt_of_cell hm
 have I7:=RI
 have rh:=RE
 have Ih:= @acF
 have Ri:= @awK
 have nf:=SK
 have pK:=SL
 have ia:=SM
 obtain⟨q,ov⟩:∃ q,qn=q:=⟨_,rfl⟩
 rw[ov]at vo BF I7 rh Ri Ih nf pK ia ⊢
 clear ov
 go_enter Tryz.func107,Tryz.ntmps107
 go_wp2_with (go_at_call 142;refine(KV _ _).mono ?_;rintro e w' ⟨rfl,hw⟩;rw[hw,Ic])
 go_loopw [12] (fun i wr=>∃ k:Nat,i= .int .i64 k∧k≤l.length∧fE l k∧Below w.heap.size w wr) (fun i _=>l.length-(intOf i).toNat)
 case atStart=>exact⟨0,rfl,by omega,fE.zero l,Below.refl _ _⟩
 case round=>
  obtain⟨k,rfl,hk,ep,hY⟩:=hrel
  by_cases ya:k<l.length
  ·have Be:wr.cell? ⟨b,off+k,none⟩=some (.int .u8 (l.getD k 0).toNat):=by rw[hY.cell (hb (by omega))];exact hc k ya
   have hd:((k:Int)<(l.length:Int)):=by omega
   obtain⟨c,iH⟩:∃ c,l.getD k 0=c:=⟨_,rfl⟩
   have ta:=fun w=>I7 c w
   have hq:=rh c
   have tC:c.toNat<256:=c.toNat_lt
   have Bz:wr.cell? ⟨3,0,none⟩=some (.int .i64 m):=by rw[hY.cell kN];exact hm
   have DN:128≤c.toNat→_:=fun h=>Ih (cap:=cap) (k:=k) (aw0 hT hY) (fun i hi=>by rw[hY.cell (hb (by omega))];exact hc i hi) ya (by rw[iH];exact h)
   rw[iH]at Be
   obtain⟨x,hx⟩:∃ x,c.toNat=x:=⟨_,rfl⟩
   rw[hx]at Be ta tC DN
   have afn:=Vz tC
   have HN:uA (fE l k):=ep
   have HB:uA (Below w.heap.size w wr):=hY
   have HC:uA (l.getD k 0=c):=iH
   clear ep hc hT hb iH hY I7 rh Ih
   by_cases ha:x<128
   ·have Iw:((x:Int)<128):=by omega
    clear DN
    obtain⟨y,hy⟩:∃ y,Lib.indexByte q.data.toList c=y:=⟨_,rfl⟩
    rw[hy]at hq ta
    cases hh:gB c
    ·rw[hh]at hq
     have hq:¬(0≤y):=of_decide_eq_false hq
     go_wp2
     go_roundw
     case measure=>simp only[intOf];omega
     case rel=>exact⟨k+1,by push_cast;rfl,by omega,fE.succ HN (by rw[HC];exact hh),HB⟩
    ·rw[hh]at hq
     have hq:0≤y:=Yv hq
     go_wp2
     go_ret
     have hA:iy l=k:=GJ ya HN (by rw[HC];exact hh)
     exact⟨by rw[hA];rfl,HB⟩
   ·have Iw:¬((x:Int)<128):=by omega
    obtain⟨R,N,oa,ayn,vg,hkN,n0,hR⟩:=DN (by omega)
    clear DN ta hq
    have HY:uA (∀ i,i<N→128≤(l.getD (k+i) 0).toNat):=n0
    clear n0
    obtain⟨r,hr⟩:∃ r:Int,(R:Int)=r:=⟨_,rfl⟩
    have bg:(r == 34)=false:=YT.2 (by omega)
    have aY:(r == 10)=false:=YT.2 (by omega)
    rcases hR with hR|⟨hR,aQ,sZ,aJ⟩
    ·have hRj:(r == 65533)=true:=beq_iff_eq.2 (by omega)
     rw[hr]at oa
     clear hR hr
     go_wp2_with (go_at_call 145;refine oa.mono ?_;rintro e w2 ⟨rfl,cW⟩)
     have nZ:Below w.heap.size w (w2.iter q 2):=(Below.trans HB (cW.mono HB.size)).alloc (by have:=HB.size;have:=cW.size;omega) _
     have QY:=nf w2
     have QZ:=pK w2
     have Q0:=ia w2
     clear nf pK ia
     refine wp_loop_rounds 3 ?_
     rw[rounds_succ]
     go_wp2
     rw[rounds_succ]
     go_wp2
     rw[rounds_succ]
     go_wp2
     go_roundw
     case measure=>simp only[intOf];omega
     case rel=>exact⟨k+N,by push_cast;rfl,by omega,fE.more HN HY,nZ⟩
    ·have hRi:¬(r=65533):=by omega
     have hRj:(r == 65533)=false:=YT.2 hRi
     obtain⟨t,ht⟩:∃ t,Utf8.encode (R:Int)=t:=⟨_,rfl⟩
     have er:=fun(w:World) (hm:w.cell? ⟨3,0,none⟩=some (.int .i64 m)) (h3:3≤N) (hN:(N:Int)≤m)=>Ri (R:=R) w hm aQ h3 hN
     rw[ht]at aQ aJ er
     rw[hr]at oa ht
     clear hR hr
     by_cases h2:N=2
     ·subst h2
      clear er
      go_wp2_with (go_at_call 145;refine oa.mono ?_;rintro e w2 ⟨rfl,cW⟩)
      go_roundw
      case measure=>simp only[intOf];omega
      case rel=>exact⟨k+2,by push_cast;rfl,by omega,fE.more HN HY,Below.trans HB (cW.mono HB.size)⟩
     ·have hNb:((2:Int) == (N:Int))=false:=YT.2 (by omega)
      have Qj:=block_lt_of_cell Bz
      by_cases hNm:(N:Int)≤m
      ·have vC:=fun w hm=>er w hm (by omega) hNm
       clear er
       go_wp2_with (go_at_call 145;refine oa.mono ?_;rintro e w2 ⟨rfl,cW⟩;have lU:w2.cell? ⟨3,0,none⟩=some (.int .i64 m):=(by rw[cW.cell Qj];exact Bz);have cI:=vC w2 lU;clear vC Bz hm)
       go_roundw
       case measure=>simp only[intOf];omega
       case rel=>exact⟨k+N,by push_cast;rfl,by omega,fE.more HN HY,Below.trans HB (cW.mono HB.size)⟩
      ·clear er
       go_wp2_with (go_at_call 145;refine oa.mono ?_;rintro e w2 ⟨rfl,cW⟩;have lU:w2.cell? ⟨3,0,none⟩=some (.int .i64 m):=(by rw[cW.cell Qj];exact Bz);clear Bz hm)
       have nZ:Below w.heap.size w (w2.iter q 2):=(Below.trans HB (cW.mono HB.size)).alloc (by have:=HB.size;have:=cW.size;omega) _
       have QY:=nf w2
       have QZ:=pK w2
       have Q0:=ia w2
       clear nf pK ia
       refine wp_loop_rounds 3 ?_
       rw[rounds_succ]
       go_wp2
       rw[rounds_succ]
       go_wp2
       rw[rounds_succ]
       go_wp2
       go_roundw
       case measure=>simp only[intOf];omega
       case rel=>exact⟨k+N,by push_cast;rfl,by omega,fE.more HN HY,nZ⟩
  ·have hd:¬((k:Int)<(l.length:Int)):=by omega
   obtain rfl:k=l.length:=by omega
   clear hc hT
   go_wp2
   go_ret
   exact⟨by rw[GK ep];rfl,hY⟩
end Go.Proofs.YtcccbdelfhgmlaaGreatDoor
namespace Go.Proofs.YtcccbdelfhgmlaaGreatDoor
open Go.Sx Go.Proofs
def f256:List AV:=List.replicate 256 (.v (.bool false))
def Fz:Nat→List AV
 |0=>f256
 |1=>f256.set 34 (.v (.bool true))
 |_=>(f256.set 34 (.v (.bool true))).set 10 (.v (.bool true))
theorem awF(i:Nat):(Fz i).length=256:=by
 match i with
 |0=>rfl
 |1=>rfl
 |_+2=>rfl
theorem awk:Pure Tryz.prog 143 [sv qn] (.aT [.agg (Fz 2),.v (.bool true)]):=by
 refine Pure.dF (fun i=>bif Nat.beq i 1000001 then 1 else bif Nat.beq i 1000000 then 1 else 0) Tryz.func143 abU adb (Z7 rfl) fun σ=> ?_
 first|refine .k1 ?_|fail
 first|refine .k2 ?_|fail
 refine Ak (cs:=f256) rfl (fun b0=> ?_)
 repeat'((fail_if_success (show WK _ _ _ _ _ _ _ _));(first|exact .nil|refine .k0 ?_|refine .k1 ?_|refine .r1 ?_ ?_|fail))
 repeat'(first|exact .nil|refine .k0 ?_|refine .k1 ?_|refine .k2 ?_|refine .k6 ?_|refine .r1 ?_ ?_|fail)
 refine dU (fun m rg σ'=>∃ i:Nat,i≤2∧m=2-i∧σ'=(2,b0,.cells (Fz i))::σ∧rg=[(0,sv qn),(2,.lp 2 b0 0),(4,iv i)]) 2 rfl ⟨_,_,Zr,Zs,0,ZH _,rfl,rfl,rfl⟩ ?_
 rintro m _ _ ⟨i,hi,hm,rfl,rfl⟩
 match i,hi with
 |0,_=>
  repeat'(first|exact .nil|refine .k0 ?_|refine .k1 ?_|refine .k2 ?_|refine .k6 ?_|refine .k7 ?_|refine .k8 ?_|refine .k9 ?_|(refine .cd ?_ ?_<;>(intro hc;skip))|refine .r1 ?_ ?_|refine .t5 ?_ ?_ ?_|fail)
  all_goals first|(exact absurd hc (by decide))|(intro _;exact⟨by decide,by decide⟩)|(exact⟨by decide,by decide⟩)|(exact⟨m-1,by omega,_,_,Zr,Zs,1,by omega,by omega,rfl,rfl⟩)|(show Sx.Fin _ _ _ _;(refine Sx.Fin.wk Zs ?_;repeat' fail);done)|skip
 |1,_=>
  repeat'(first|exact .nil|refine .k0 ?_|refine .k1 ?_|refine .k2 ?_|refine .k6 ?_|refine .k7 ?_|refine .k8 ?_|refine .k9 ?_|(refine .cd ?_ ?_<;>(intro hc;skip))|refine .r1 ?_ ?_|refine .t5 ?_ ?_ ?_|fail)
  all_goals first|(exact absurd hc (by decide))|(intro _;exact⟨by decide,by decide⟩)|(exact⟨by decide,by decide⟩)|(exact⟨m-1,by omega,_,_,Zr,Zs,2,by omega,by omega,rfl,rfl⟩)|(show Sx.Fin _ _ _ _;(refine Sx.Fin.wk Zs ?_;repeat' fail);done)|skip
 |2,_=>
  repeat'(first|exact .nil|refine .k0 ?_|refine .k1 ?_|refine .k2 ?_|refine .k6 ?_|refine .k7 ?_|refine .k8 ?_|refine .k9 ?_|(refine .cd ?_ ?_<;>(intro hc;first|exact kf hc (by assumption)|skip))|refine .r1 ?_ ?_|refine .t5 ?_ ?_ ?_|fail)
  all_goals first|(exact absurd hc (by decide))|(show Sx.Fin _ _ _ _;(refine Sx.Fin.wk Zs ?_;repeat' first|exact .refl _|fail);done)|fail
end Go.Proofs.YtcccbdelfhgmlaaGreatDoor
namespace Go.Proofs.YtcccbdelfhgmlaaGreatDoor
open Go.RowKit Go.Proofs
open Go.Sx (AV Inv Mem RL R Glob Store BlkOK Base)
def mr(M:Mem)(n:Nat)(w':World):Mem:=fun b o=>if n≤b then w'.cell? ⟨b,o,none⟩else M b o
theorem J9{M:Mem}{w0:Base}{w w':World}{σ:Store}(hI:Inv Tryz.prog M w0 σ w):M.le (mr M w.heap.size w'):=fun b o v h=>by
 have:=World.block_lt_of_cell? _ _ (hI.dA b o v h)
 unfold mr
 rw[Z9 (by simp at this;omega)];exact h
theorem RS{M:Mem}{w0:Base}{w w':World}{σ:Store}(hI:Inv Tryz.prog M w0 σ w)(hb:Below w.heap.size w w'):Inv Tryz.prog (mr M w.heap.size w') w0 σ w':=by
 have h1:=hI.after hb
 have hle:=J9 (w':=w') hI
 refine⟨h1.os,h1.tape,h1.output,h1.size,h1.old,fun b o v h=> ?_,fun e he=> ?_,h1.nd,fun g l hl=>(h1.gl g l hl).mono hle,h1.gw,fun b o v hv ax=>h1.bm b o v (by unfold mr at hv;rwa [Z9 (by have:=hI.size;omega)]at hv) ax⟩
 ·unfold mr at h
  split at h
  ·exact h
  ·exact h1.dA b o v h
 ·obtain⟨g1,g2⟩:=h1.st e he
  refine⟨g1,?_⟩
  obtain⟨_,g3⟩:=hI.st e he
  have ax:e.2.1<w.heap.size:=by
   cases hx:e.2.2 with
   |cells l=>rw[hx]at g3;obtain⟨_,cs,t,a2,_⟩:=g3;exact(ZX.1 a2).1
   |tail u c=>rw[hx]at g3;obtain⟨_,cs,t,a2,_⟩:=g3;exact(ZX.1 a2).1
   |map es k=>rw[hx]at g3;obtain⟨_,l,a2,_⟩:=g3;exact(ZX.1 a2).1
  have hN:∀ o,mr M w.heap.size w' e.2.1 o=M e.2.1 o:=fun o=>by unfold mr;rw[Z9 (by omega)]
  cases hx:e.2.2 with
  |cells l=>rw[hx]at g2;obtain⟨a1,cs,t,a2,a3⟩:=g2;exact⟨fun o=>(hN o).trans (a1 o),cs,t,a2,a3.mono hle⟩
  |tail u c=>rw[hx]at g2;obtain⟨a1,cs,t,a2,a3⟩:=g2;exact⟨fun o ho=>(hN o).trans (a1 o ho),cs,t,a2,a3⟩
  |map es k=>rw[hx]at g2;obtain⟨a1,l,a2,a3,a4⟩:=g2;exact⟨fun o=>(hN o).trans (a1 o),l,a2,a3,a4.mono hle⟩
theorem JP{M:Mem}{w0:Base}{w:World}{σ:Store}(hI:Inv Tryz.prog M w0 σ w):Inv Tryz.prog M ⟨w,M⟩ [] w:=
 ⟨rfl,rfl,rfl,ZR _,fun _ _=>rfl,hI.dA,fun e he=>(by cases he),XJ,hI.gl,GW.keep hI.gw hI.size fun k cs t f h=>hI.old k (ZX.1 h).1,fun _ _ _ h _=>h⟩
theorem Pure.new{f:FuncId}{xs:List AV}{r:AV}(h:∀ (M:Mem) (w:World) (cs:List Value),Inv Tryz.prog M ⟨w,M⟩ [] w→RL M xs cs→Calls Tryz.prog f cs.toArray w fun e w'=>(∃ v,e= .returned v∧R (mr M w.heap.size w') r v)∧Below w.heap.size w w'):Sx.Pure Tryz.prog f xs r:=
 ⟨fun σ M w0 w cs hI hR=>(h M w cs (JP hI) hR).mono fun e w' ⟨⟨v,he,hv⟩,hb⟩=>⟨mr M w.heap.size w',.ret r,σ,J9 hI,RS hI hb,by subst he;exact hv,rfl,rfl⟩⟩
end Go.Proofs.YtcccbdelfhgmlaaGreatDoor
