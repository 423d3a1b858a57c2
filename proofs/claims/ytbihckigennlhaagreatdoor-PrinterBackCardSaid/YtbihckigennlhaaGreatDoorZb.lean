/- bytes.IndexAny of a quote and a line's end: plain facts. -/
import Derived.Test.YtbihckigennlhaaGreatDoorVc
import Derived.Lib.RuneCountTail
import Derived.Lib.IndexBytes
import Derived.Lib.IndexAny
import Derived.Lib.IndexEntry
import Derived.Laws.Runes
import Derived.Handy
import Derived.BigFrame
import Derived.Shelf.Strings.IndexAny
import Derived.Test.YtbihckigennlhaaGreatDoorGi
import Derived.Test.YtbihckigennlhaaGreatDoorSxZ
set_option linter.unusedSimpArgs false
set_option linter.unusedVariables false
set_option maxRecDepth 100000
set_option maxHeartbeats 4000000
namespace Go.Proofs.YtbihckigennlhaaGreatDoor
open Go.Sx Go.Proofs
def hitB(c:UInt8):Bool:=c == 34 || c == 10
def NoHit(l:List UInt8)(k:Nat):Prop:=∀ i,i<k→hitB (l.getD i 0)=false
theorem spanN_at(p:UInt8→Bool):∀ (l:List UInt8) (k:Nat),k<l.length→(∀ i,i<k→p (l.getD i 0)=true)→p (l.getD k 0)=false→spanN p l=k
 |[],k,hk,_,_=>absurd hk (by simp)
 |a::l,0,_,_,h=>by
  have h:p a=false:=h
  simp[spanN,List.takeWhile_cons,h]
 |a::l,k+1,hk,hn,h=>by
  have h0:p a=true:=hn 0 (by omega)
  have:=spanN_at p l k (by simpa using hk) (fun i hi=>by have:=hn (i+1) (by omega);simpa using this) (by simpa using h)
  unfold spanN at this ⊢
  rw[List.takeWhile_cons,h0,if_pos rfl,List.length_cons,this]
theorem hit_mem{l:List UInt8}{k:Nat}(hk:k<l.length)(h:hitB (l.getD k 0)=true):34∈l∨10∈l:=by
 have e:l.getD k 0=l[k]:=by simp[List.getD_eq_getElem?_getD,hk]
 rw[e]at h
 have:=List.getElem_mem hk
 simp only[hitB,Bool.or_eq_true,beq_iff_eq]at h
 rcases h with h|h
 ·exact .inl (h ▸ this)
 ·exact .inr (h ▸ this)
theorem anyQ_hit{l:List UInt8}{k:Nat}(hk:k<l.length)(hn:NoHit l k)(h:hitB (l.getD k 0)=true):anyQ l=k:=by
 unfold anyQ
 rw[if_pos (hit_mem hk h)]
 refine congrArg Int.ofNat (spanN_at _ l k hk (fun i hi=> ?_) ?_)
 ·have:=hn i hi
  simp only[hitB,Bool.or_eq_false_iff,beq_eq_false_iff_ne]at this
  rw[Bool.and_eq_true]
  exact⟨bne_iff_ne.2 this.1,bne_iff_ne.2 this.2⟩
 ·simp only[hitB,Bool.or_eq_true,beq_iff_eq]at h
  rcases h with h|h<;>simp only[h]<;>decide
theorem anyQ_none{l:List UInt8}(hn:NoHit l l.length):anyQ l= -1:=by
 unfold anyQ
 rw[if_neg]
 have key:∀ c:UInt8,c∈l→hitB c=false:=fun c hc=>by
  obtain⟨i,hi,e⟩:=List.getElem_of_mem hc
  have:=hn i hi
  rwa [show l.getD i 0=c by simp[List.getD_eq_getElem?_getD,hi,e]]at this
 rintro(h|h)
 ·exact absurd (key _ h) (by decide)
 ·exact absurd (key _ h) (by decide)
theorem NoHit.zero(l:List UInt8):NoHit l 0:=fun i hi=>absurd hi (Nat.not_lt_zero i)
theorem NoHit.succ{l:List UInt8}{k:Nat}(h:NoHit l k)(hc:hitB (l.getD k 0)=false):NoHit l (k+1):=fun i hi=>by
 rcases Nat.lt_succ_iff_lt_or_eq.1 hi with h1|rfl
 ·exact h i h1
 ·exact hc
theorem hit_lt{c:UInt8}(h:128≤c.toNat):hitB c=false:=by
 simp only[hitB,Bool.or_eq_false_iff,beq_eq_false_iff_ne]
 constructor
 all_goals
  rintro rfl
  revert h
  decide
theorem NoHit.more{l:List UInt8}{k n:Nat}(h:NoHit l k)(hc:∀ i,i<n→128≤(l.getD (k+i) 0).toNat):NoHit l (k+n):=fun i hi=>by
 by_cases h1:i<k
 ·exact h i h1
 ·have:=hc (i-k) (by omega)
  rw[show k+(i-k)=i by omega]at this
  exact hit_lt this
def qn:Str:=⟨#[34,10]⟩
theorem idx_qn(c:UInt8):decide (0≤Lib.indexByte qn.data.toList c)=hitB c:=by
 rw[← Lib.contains_iff_indexByte]
 show([34,10]:List UInt8).contains c=_
 simp only[hitB,List.contains_cons,List.contains_nil,Bool.or_false]
theorem enc_size(r:Nat):(Utf8.encode (r:Int)).size=if(Utf8.valid (r:Int))=true then(if r<128 then 1 else if r<2048 then 2 else if r<65536 then 3 else 4)else(Utf8.encode (r:Int)).size:=by
 split
 ·rename_i h
  unfold Utf8.encode
  simp only[h,if_true,Int.toNat_natCast]
  repeat' split
  all_goals rfl
 ·rfl
theorem dec_facts(l:List UInt8)(h0:0<l.length)(h1:128≤(l.getD 0 0).toNat):Lib.decodeGo ⟨l.toArray⟩=(65533,1)∨
  (2≤(Lib.decodeGo ⟨l.toArray⟩).2∧(Lib.decodeGo ⟨l.toArray⟩).2≤4∧(Lib.decodeGo ⟨l.toArray⟩).2≤l.length∧128≤(Lib.decodeGo ⟨l.toArray⟩).1∧(Lib.decodeGo ⟨l.toArray⟩).1≤1114111∧(Utf8.encode ((Lib.decodeGo ⟨l.toArray⟩).1:Int)).size=(Lib.decodeGo ⟨l.toArray⟩).2∧Utf8.valid ((Lib.decodeGo ⟨l.toArray⟩).1:Int)=true∧∀ k,k<(Lib.decodeGo ⟨l.toArray⟩).2→128≤(l.getD k 0).toNat):=by
 have hs:(⟨l.toArray⟩:ByteArray).size=l.length:=by simp[ByteArray.size]
 have hg:∀ i,(⟨l.toArray⟩:ByteArray).get! i=l.getD i 0:=fun i=>by rw[← Lib.getD_get!']
 unfold Lib.decodeGo
 rw[hs,if_neg (by omega),Lib.decode_at,hs,hg,hg,hg,hg]
 simp only[Nat.zero_add,Nat.sub_zero]
 generalize e0:(l.getD 0 0).toNat=b0 at *
 generalize e1:(l.getD 1 0).toNat=b1 at *
 generalize e2:(l.getD 2 0).toNat=b2 at *
 generalize e3:(l.getD 3 0).toNat=b3 at *
 have q:∀ n,n≤4→∀ k,k<n→k=0∨k=1∨k=2∨k=3:=by omega
 have key:∀ (r n:Nat),2≤n→n≤4→n≤l.length→128≤r→r≤1114111→(r<55296∨57344≤r)→(n=2→r<2048)→(n=3→2048≤r∧r<65536)→(n=4→65536≤r)→(1<n→128≤b1)→(2<n→128≤b2)→(3<n→128≤b3)→
   (2≤n∧n≤4∧n≤l.length∧128≤r∧r≤1114111∧(Utf8.encode (r:Int)).size=n∧Utf8.valid (r:Int)=true∧∀ k,k<n→128≤(l.getD k 0).toNat):=by
  intro r n a1 a2 a3 a4 a5 a6 a7 a8 a9 c1 c2 c3
  have hv:Utf8.valid (r:Int)=true:=by
   unfold Utf8.valid
   simp only[Bool.and_eq_true,Bool.or_eq_true,decide_eq_true_eq]
   omega
  refine⟨a1,a2,a3,a4,a5,?_,hv,fun k hk=> ?_⟩
  ·rw[enc_size,if_pos hv,if_neg (by omega)]
   split
   ·omega
   ·split<;>omega
  ·rcases q n a2 k hk with rfl|rfl|rfl|rfl
   ·rw[e0];exact h1
   ·rw[e1];exact c1 (by omega)
   ·rw[e2];exact c2 (by omega)
   ·rw[e3];exact c3 (by omega)
 unfold Lib.decodeN
 rw[if_neg (by omega)]
 split
 ·rename_i h
  split
  ·exact .inr (key _ 2 (by omega) (by omega) (by omega) (by omega) (by omega) (by omega) (by omega) (by omega) (by omega) (by omega) (by omega) (by omega))
  ·exact .inl rfl
 ·split
  ·rename_i h
   split
   ·rename_i h2
    exact .inr (key _ 3 (by omega) (by omega) (by omega) (by omega) (by omega) (by omega) (by omega) (by omega) (by omega) (by omega) (by omega) (by omega))
   ·exact .inl rfl
  ·split
   ·rename_i h
    split
    ·rename_i h2
     exact .inr (key _ 4 (by omega) (by omega) (by omega) (by omega) (by omega) (by omega) (by omega) (by omega) (by omega) (by omega) (by omega) (by omega))
    ·exact .inl rfl
   ·exact .inl rfl
end Go.Proofs.YtbihckigennlhaaGreatDoor
set_option linter.unusedSectionVars false
set_option maxHeartbeats 8000000
namespace Go.Proofs.YtbihckigennlhaaGreatDoor
open Go.RowKit Go.Proofs
theorem shouldW(n:Int)(w:World):Calls Tryz.prog 139 #[.int .i64 n] w fun e w'=>e= .returned (.bool (decide (8<n)))∧w'=w:=by
 go_enter Tryz.func139,Tryz.ntmps139
 go_wp2
 go_ret
 exact⟨rfl,rfl⟩
theorem indexW(c:UInt8)(w:World):(callFunc 137 #[.string qn,.int .u8 c.toNat]).run Tryz.prog w= .ok (.value (.int .i64 (Lib.indexByte qn.data.toList c))) w:=by
 rw[run_callFunc_extern Tryz.func137 (by kernel_rfl) (by kernel_rfl) (by kernel_rfl) (e:=Extern.BytealgIndexByte.indexByte) (by kernel_rfl),Lib.run_indexByteString]
 have:((c.toNat:Int).toNat.toUInt8)=c:=by simp
 rw[this]
 rfl
theorem w32{x:Nat}(h:x<256):wrap32 (x:Int)=x:=by
 unfold wrap32
 omega
def Asi(p:Prop):Prop:=p
theorem qn_ne{R:Nat}(hv:Utf8.valid (R:Int)=true)(h:128≤R):(qn.toList == (Utf8.encode (R:Int)).toList)=false:=by
 rw[Lib.toList_data,Lib.toList_data,beq_eq_false_iff_ne]
 intro e
 have e2:qn=Utf8.encode (R:Int):=by
  cases h1:qn;cases h2:Utf8.encode (R:Int)
  rw[h1,h2]at e
  exact congrArg ByteArray.mk (Array.toList_inj.1 e)
 obtain⟨_,_,h3⟩:=encode_facts (R:Int) hv (by omega)
 rw[← e2]at h3
 exact absurd (h3 (by decide)) (by decide)
theorem strW{R N:Nat}(w:World){m:Int}(hm:w.cell? ⟨3,0,none⟩=some (.int .i64 m))(hs:(Utf8.encode (R:Int)).size=N)(h3:3≤N)(hN:(N:Int)≤m):(callFunc 143 #[.string qn,.string (Utf8.encode (R:Int))]).run Tryz.prog w= .ok (.value (.int .i64 (-1))) w:=by
 rw[run_callFunc_extern Tryz.func143 (by kernel_rfl) (by kernel_rfl) (by kernel_rfl) (e:=Extern.BytealgIndex.index) (by kernel_rfl),Lib.run_indexString qn _ w 3 m (by kernel_rfl) hm (by omega) (by rw[hs];exact hN) (by decide)]
 have h4:Lib.index qn.data.toList (Utf8.encode (R:Int)).data.toList= -1:=Lib.long qn _ (by show 2≤_;omega) (by
  rw[Lib.toList_data,Lib.toList_data,beq_eq_false_iff_ne]
  intro e
  have:=congrArg List.length e
  rw[← Lib.size_eq,← Lib.size_eq,hs]at this
  have:N=2:=this
  omega)
 rw[h4]
 rfl
theorem decW{w:World}{b off cap:Nat}{l:List UInt8}(hT:Lib.Utf8Tabs 5 6 w)(hc:∀ i,i<l.length→w.cell? ⟨b,off+i,none⟩=some (.int .u8 (l.getD i 0).toNat)){k:Nat}(hk:k<l.length)(h1:128≤(l.getD k 0).toNat):
  ∃ R N:Nat,Calls Tryz.prog 142 #[.slice (some ⟨b,off+k,none⟩) (l.length-k) (cap-k)] w (fun e w'=>e= .returned (.tuple #[.int .i32 R,.int .i64 N])∧Below w.heap.size w w')∧128≤R∧1≤N∧k+N≤l.length∧(∀ i,i<N→128≤(l.getD (k+i) 0).toNat)∧
   (R=65533∨(R≠65533∧(Utf8.encode (R:Int)).size=N∧2≤N∧(qn.toList == (Utf8.encode (R:Int)).toList)=false)):=by
 have hs:(⟨(l.drop k).toArray⟩:ByteArray).size=l.length-k:=by simp[ByteArray.size]
 have hg:∀ i,(⟨(l.drop k).toArray⟩:ByteArray).get! i=l.getD (k+i) 0:=fun i=>by
  rw[← Lib.getD_get!']
  show(l.drop k).getD i 0=_
  simp[List.getD_eq_getElem?_getD]
 have hgd:∀ i,(l.drop k).getD i 0=l.getD (k+i) 0:=fun i=>by simp[List.getD_eq_getElem?_getD]
 have hcall:=Any7.utf8_DecodeRune decLays ⟨(l.drop k).toArray⟩ b (off+k) (cap-k) w hT (fun j hj=>by
  rw[hs]at hj
  rw[hg,show off+k+j=off+(k+j) by omega]
  exact hc _ (by omega))
 rw[hs]at hcall
 refine⟨_,_,hcall,?_⟩
 rcases dec_facts (l.drop k) (by simp;omega) (by rw[hgd,Nat.add_zero];exact h1)with h|⟨h2,h3,h4,h5,h6,h7,h8,h9⟩
 ·rw[h]
  refine⟨by decide,Nat.le_refl _,hk,fun i hi=> ?_,.inl rfl⟩
  have hi':i<1:=hi
  obtain rfl:i=0:=by omega
  exact h1
 ·rw[List.length_drop]at h4
  refine⟨h5,by omega,by omega,fun i hi=>by rw[← hgd];exact h9 i hi,?_⟩
  by_cases hR:(Lib.decodeGo ⟨(l.drop k).toArray⟩).1=65533
  ·exact .inl hR
  ·exact .inr ⟨hR,h7,h2,qn_ne h8 h5⟩
theorem nxt0(w:World)(ty:TypeId):(Instr.next (.pointer (some ⟨w.heap.size,0,none⟩)) true ty).run Tryz.prog (w.iter qn 0)= .ok (.tuple #[.bool true,.int .i64 0,.int .i32 34]) (w.iter qn 1):=run_next_ascii w qn 0 ty (by decide) (by decide)
theorem nxt1(w:World)(ty:TypeId):(Instr.next (.pointer (some ⟨w.heap.size,0,none⟩)) true ty).run Tryz.prog (w.iter qn 1)= .ok (.tuple #[.bool true,.int .i64 1,.int .i32 10]) (w.iter qn 2):=run_next_ascii w qn 1 ty (by decide) (by decide)
theorem nxt2(w:World)(ty:TypeId):(Instr.next (.pointer (some ⟨w.heap.size,0,none⟩)) true ty).run Tryz.prog (w.iter qn 2)= .ok (.tuple #[.bool false]) (w.iter qn 2):=run_next_end w qn 2 ty (by decide)
theorem tabs_kept{w w':World}(hT:Lib.Utf8Tabs 5 6 w)(hb:Below w.heap.size w w'):Lib.Utf8Tabs 5 6 w':=by
 refine⟨fun c h=> ?_,fun i h=>⟨?_,?_⟩⟩
 ·have:=hT.1 c h;rw[hb.cell (block_lt_of_cell this)];exact this
 ·have:=(hT.2 i h).1;rw[hb.cell (block_lt_of_cell this)];exact this
 ·have:=(hT.2 i h).2;rw[hb.cell (block_lt_of_cell this)];exact this
set_option maxHeartbeats 1000000 in
theorem any_small{w:World}{b off cap:Nat}{l:List UInt8}(h1:l.length≠1)(h8:l.length≤8)(hcap:l.length≤cap)(hmax:cap≤maxLen)(hb:0<l.length→b<w.heap.size)
  (hc:∀ i,i<l.length→w.cell? ⟨b,off+i,none⟩=some (.int .u8 (l.getD i 0).toNat)) (hT:Lib.Utf8Tabs 5 6 w) {m:Int} (hm:w.cell? ⟨3,0,none⟩=some (.int .i64 m)):
  Calls Tryz.prog 96 #[.slice (some ⟨b,off,none⟩) l.length cap,.string qn] w fun e w'=>e= .returned (.int .i64 (anyQ l))∧Below w.heap.size w w':=by
 have hn1:((l.length:Int) == 1)=false:=beq_eq_false_iff_ne.2 (by omega)
 have h8z:decide ((8:Int)<(l.length:Int))=false:=decide_eq_false (by omega)
 have hemp:qn.toList.isEmpty=false:=by rw[Lib.toList_data];rfl
 have hqs:qn.size=2:=rfl
 have hb0:=block_lt_of_cell hm
 have hix0:=indexW
 have hq0:=idx_qn
 have hDec0:= @decW
 have hst0:= @strW
 have hn0:=nxt0
 have hn1':=nxt1
 have hn2:=nxt2
 obtain⟨q,hqe⟩:∃ q,qn=q:=⟨_,rfl⟩
 rw[hqe]at hemp hqs hix0 hq0 hst0 hDec0 hn0 hn1' hn2 ⊢
 clear hqe
 go_enter Tryz.func96,Tryz.ntmps96
 go_wp2_with (go_at_call 139;refine(shouldW _ _).mono ?_;rintro e w' ⟨rfl,hw⟩;rw[hw,h8z])
 go_loopw [12] (fun i wr=>∃ k:Nat,i= .int .i64 k∧k≤l.length∧NoHit l k∧Below w.heap.size w wr) (fun i _=>l.length-(intOf i).toNat)
 case atStart=>exact⟨0,rfl,by omega,NoHit.zero l,Below.refl _ _⟩
 case round=>
  obtain⟨k,rfl,hk,hno,hbl⟩:=hrel
  by_cases hkl:k<l.length
  ·have hck:wr.cell? ⟨b,off+k,none⟩=some (.int .u8 (l.getD k 0).toNat):=by rw[hbl.cell (hb (by omega))];exact hc k hkl
   have hd:((k:Int)<(l.length:Int)):=by omega
   obtain⟨c,hcc⟩:∃ c,l.getD k 0=c:=⟨_,rfl⟩
   have hix:=fun w=>hix0 c w
   have hq:=hq0 c
   have hx256:c.toNat<256:=c.toNat_lt
   have hmr:wr.cell? ⟨3,0,none⟩=some (.int .i64 m):=by rw[hbl.cell hb0];exact hm
   have hDec:128≤c.toNat→_:=fun h=>hDec0 (cap:=cap) (k:=k) (tabs_kept hT hbl) (fun i hi=>by rw[hbl.cell (hb (by omega))];exact hc i hi) hkl (by rw[hcc];exact h)
   rw[hcc]at hck
   obtain⟨x,hx⟩:∃ x,c.toNat=x:=⟨_,rfl⟩
   rw[hx]at hck hix hx256 hDec
   have hw32:=w32 hx256
   have HN:Asi (NoHit l k):=hno
   have HB:Asi (Below w.heap.size w wr):=hbl
   have HC:Asi (l.getD k 0=c):=hcc
   clear hno hc hT hb hcc hbl hix0 hq0 hDec0
   by_cases ha:x<128
   ·have ha':((x:Int)<128):=by omega
    clear hDec
    obtain⟨y,hy⟩:∃ y,Lib.indexByte q.data.toList c=y:=⟨_,rfl⟩
    rw[hy]at hq hix
    cases hh:hitB c
    ·rw[hh]at hq
     have hq:¬(0≤y):=of_decide_eq_false hq
     go_wp2
     go_roundw
     case measure=>simp only[intOf];omega
     case rel=>exact⟨k+1,by push_cast;rfl,by omega,NoHit.succ HN (by rw[HC];exact hh),HB⟩
    ·rw[hh]at hq
     have hq:0≤y:=of_decide_eq_true hq
     go_wp2
     go_ret
     have hA:anyQ l=k:=anyQ_hit hkl HN (by rw[HC];exact hh)
     exact⟨by rw[hA];rfl,HB⟩
   ·have ha':¬((x:Int)<128):=by omega
    obtain⟨R,N,hcall,h128,hN1,hkN,hby,hR⟩:=hDec (by omega)
    clear hDec hix hq
    have HY:Asi (∀ i,i<N→128≤(l.getD (k+i) 0).toNat):=hby
    clear hby
    obtain⟨r,hr⟩:∃ r:Int,(R:Int)=r:=⟨_,rfl⟩
    have hr1:(r == 34)=false:=beq_eq_false_iff_ne.2 (by omega)
    have hr2:(r == 10)=false:=beq_eq_false_iff_ne.2 (by omega)
    rcases hR with hR|⟨hR,hsz,hN2,hne⟩
    ·have hRj:(r == 65533)=true:=beq_iff_eq.2 (by omega)
     rw[hr]at hcall
     clear hR hr
     go_wp2_with (go_at_call 142;refine hcall.mono ?_;rintro e w2 ⟨rfl,hb2⟩)
     have hb3:Below w.heap.size w (w2.iter q 2):=(Below.trans HB (hb2.mono HB.size)).alloc (by have:=HB.size;have:=hb2.size;omega) _
     have hn0':=hn0 w2
     have hn1'':=hn1' w2
     have hn2':=hn2 w2
     clear hn0 hn1' hn2
     refine wp_loop_rounds 3 ?_
     rw[rounds_succ]
     go_wp2
     rw[rounds_succ]
     go_wp2
     rw[rounds_succ]
     go_wp2
     go_roundw
     case measure=>simp only[intOf];omega
     case rel=>exact⟨k+N,by push_cast;rfl,by omega,NoHit.more HN HY,hb3⟩
    ·have hRi:¬(r=65533):=by omega
     have hRj:(r == 65533)=false:=beq_eq_false_iff_ne.2 hRi
     obtain⟨t,ht⟩:∃ t,Utf8.encode (R:Int)=t:=⟨_,rfl⟩
     have hst:=fun(w:World) (hm:w.cell? ⟨3,0,none⟩=some (.int .i64 m)) (h3:3≤N) (hN:(N:Int)≤m)=>hst0 (R:=R) w hm hsz h3 hN
     rw[ht]at hsz hne hst
     rw[hr]at hcall ht
     clear hR hr
     by_cases h2:N=2
     ·subst h2
      clear hst
      go_wp2_with (go_at_call 142;refine hcall.mono ?_;rintro e w2 ⟨rfl,hb2⟩)
      go_roundw
      case measure=>simp only[intOf];omega
      case rel=>exact⟨k+2,by push_cast;rfl,by omega,NoHit.more HN HY,Below.trans HB (hb2.mono HB.size)⟩
     ·have hNb:((2:Int) == (N:Int))=false:=beq_eq_false_iff_ne.2 (by omega)
      have hb0r:=block_lt_of_cell hmr
      by_cases hNm:(N:Int)≤m
      ·have hst2:=fun w hm=>hst w hm (by omega) hNm
       clear hst
       go_wp2_with (go_at_call 142;refine hcall.mono ?_;rintro e w2 ⟨rfl,hb2⟩;have hm2:w2.cell? ⟨3,0,none⟩=some (.int .i64 m):=(by rw[hb2.cell hb0r];exact hmr);have hs2:=hst2 w2 hm2;clear hst2 hmr hm)
       go_roundw
       case measure=>simp only[intOf];omega
       case rel=>exact⟨k+N,by push_cast;rfl,by omega,NoHit.more HN HY,Below.trans HB (hb2.mono HB.size)⟩
      ·clear hst
       go_wp2_with (go_at_call 142;refine hcall.mono ?_;rintro e w2 ⟨rfl,hb2⟩;have hm2:w2.cell? ⟨3,0,none⟩=some (.int .i64 m):=(by rw[hb2.cell hb0r];exact hmr);clear hmr hm)
       have hb3:Below w.heap.size w (w2.iter q 2):=(Below.trans HB (hb2.mono HB.size)).alloc (by have:=HB.size;have:=hb2.size;omega) _
       have hn0':=hn0 w2
       have hn1'':=hn1' w2
       have hn2':=hn2 w2
       clear hn0 hn1' hn2
       refine wp_loop_rounds 3 ?_
       rw[rounds_succ]
       go_wp2
       rw[rounds_succ]
       go_wp2
       rw[rounds_succ]
       go_wp2
       go_roundw
       case measure=>simp only[intOf];omega
       case rel=>exact⟨k+N,by push_cast;rfl,by omega,NoHit.more HN HY,hb3⟩
  ·have hd:¬((k:Int)<(l.length:Int)):=by omega
   obtain rfl:k=l.length:=by omega
   clear hc hT
   go_wp2
   go_ret
   exact⟨by rw[anyQ_none hno];rfl,hbl⟩
end Go.Proofs.YtbihckigennlhaaGreatDoor
namespace Go.Proofs.YtbihckigennlhaaGreatDoor
open Go.Sx Go.Proofs
def f256:List AV:=List.replicate 256 (.v (.bool false))
def stepV:Nat→List AV
 |0=>f256
 |1=>f256.set 34 (.v (.bool true))
 |_=>(f256.set 34 (.v (.bool true))).set 10 (.v (.bool true))
theorem stepV_len(i:Nat):(stepV i).length=256:=by
 match i with
 |0=>rfl
 |1=>rfl
 |_+2=>rfl
theorem set_ok:Pure Tryz.prog 140 [sv qn] (.tup [.agg (stepV 2),.v (.bool true)]):=by
 refine Pure.runk (fun i=>bif Nat.beq i 1000001 then 1 else bif Nat.beq i 1000000 then 1 else 0) Tryz.func140 comp140 era140 (Nat.le_of_ble_eq_true rfl) fun σ=> ?_
 first|refine .k1 ?_|fail
 first|refine .k2 ?_|fail
 refine VX_alloc (cs:=f256) rfl (fun b0=> ?_)
 repeat'((fail_if_success (show WK _ _ _ _ _ _ _ _));(first|exact .nil|refine .k0 ?_|refine .k1 ?_|refine .r1 ?_ ?_|fail))
 repeat'(first|exact .nil|refine .k0 ?_|refine .k1 ?_|refine .k2 ?_|refine .k6 ?_|refine .r1 ?_ ?_|fail)
 refine WK_loop (fun m rg σ'=>∃ i:Nat,i≤2∧m=2-i∧σ'=(2,b0,.cells (stepV i))::σ∧rg=[(0,sv qn),(2,.lp 2 b0 0),(4,iv i)]) 2 rfl ⟨_,_,Zr,Zs,0,Nat.zero_le _,rfl,rfl,rfl⟩ ?_
 rintro m _ _ ⟨i,hi,hm,rfl,rfl⟩
 match i,hi with
 |0,_=>
  repeat'(first|exact .nil|refine .k0 ?_|refine .k1 ?_|refine .k2 ?_|refine .k6 ?_|refine .k7 ?_|refine .k8 ?_|refine .k9 ?_|(refine .cd ?_ ?_<;>(intro hc;skip))|refine .r1 ?_ ?_|refine .t5 ?_ ?_ ?_|fail)
  all_goals first|(exact absurd hc (by decide))|(intro _;exact⟨by decide,by decide⟩)|(exact⟨by decide,by decide⟩)|(exact⟨m-1,by omega,_,_,Zr,Zs,1,by omega,by omega,rfl,rfl⟩)|(show Sx.Fin _ _ _ _;(refine Sx.Fin.wk Zs ?_;repeat' fail);done)|skip
 |1,_=>
  repeat'(first|exact .nil|refine .k0 ?_|refine .k1 ?_|refine .k2 ?_|refine .k6 ?_|refine .k7 ?_|refine .k8 ?_|refine .k9 ?_|(refine .cd ?_ ?_<;>(intro hc;skip))|refine .r1 ?_ ?_|refine .t5 ?_ ?_ ?_|fail)
  all_goals first|(exact absurd hc (by decide))|(intro _;exact⟨by decide,by decide⟩)|(exact⟨by decide,by decide⟩)|(exact⟨m-1,by omega,_,_,Zr,Zs,2,by omega,by omega,rfl,rfl⟩)|(show Sx.Fin _ _ _ _;(refine Sx.Fin.wk Zs ?_;repeat' fail);done)|skip
 |2,_=>
  repeat'(first|exact .nil|refine .k0 ?_|refine .k1 ?_|refine .k2 ?_|refine .k6 ?_|refine .k7 ?_|refine .k8 ?_|refine .k9 ?_|(refine .cd ?_ ?_<;>(intro hc;first|exact kf hc (by assumption)|skip))|refine .r1 ?_ ?_|refine .t5 ?_ ?_ ?_|fail)
  all_goals first|(exact absurd hc (by decide))|(show Sx.Fin _ _ _ _;(refine Sx.Fin.wk Zs ?_;repeat' first|exact .refl _|fail);done)|fail
end Go.Proofs.YtbihckigennlhaaGreatDoor
namespace Go.Proofs.YtbihckigennlhaaGreatDoor
open Go.RowKit Go.Proofs
open Go.Sx (AV Inv Mem RL R Glob Store BlkOK Base)
def memN(M:Mem)(n:Nat)(w':World):Mem:=fun b o=>if n≤b then w'.cell? ⟨b,o,none⟩else M b o
theorem memN_le{M:Mem}{w0:Base}{w w':World}{σ:Store}(hI:Inv Tryz.prog M w0 σ w):M.le (memN M w.heap.size w'):=fun b o v h=>by
 have:=World.block_lt_of_cell? _ _ (hI.imm b o v h)
 unfold memN
 rw[if_neg (by simp at this;omega)];exact h
theorem inv_new{M:Mem}{w0:Base}{w w':World}{σ:Store}(hI:Inv Tryz.prog M w0 σ w)(hb:Below w.heap.size w w'):Inv Tryz.prog (memN M w.heap.size w') w0 σ w':=by
 have h1:=hI.after hb
 have hle:=memN_le (w':=w') hI
 refine⟨h1.os,h1.tape,h1.output,h1.size,h1.old,fun b o v h=> ?_,fun e he=> ?_,h1.nd,fun g l hl=>(h1.gl g l hl).mono hle,h1.gw,fun b o v hv hlt=>h1.bm b o v (by unfold memN at hv;rwa [if_neg (by have:=hI.size;omega)]at hv) hlt⟩
 ·unfold memN at h
  split at h
  ·exact h
  ·exact h1.imm b o v h
 ·obtain⟨g1,g2⟩:=h1.st e he
  refine⟨g1,?_⟩
  obtain⟨_,g3⟩:=hI.st e he
  have hlt:e.2.1<w.heap.size:=by
   cases hx:e.2.2 with
   |cells l=>rw[hx]at g3;obtain⟨_,cs,t,a2,_⟩:=g3;exact(Array.getElem?_eq_some_iff.1 a2).1
   |tail u c=>rw[hx]at g3;obtain⟨_,cs,t,a2,_⟩:=g3;exact(Array.getElem?_eq_some_iff.1 a2).1
   |map es k=>rw[hx]at g3;obtain⟨_,l,a2,_⟩:=g3;exact(Array.getElem?_eq_some_iff.1 a2).1
  have hN:∀ o,memN M w.heap.size w' e.2.1 o=M e.2.1 o:=fun o=>by unfold memN;rw[if_neg (by omega)]
  cases hx:e.2.2 with
  |cells l=>rw[hx]at g2;obtain⟨a1,cs,t,a2,a3⟩:=g2;exact⟨fun o=>(hN o).trans (a1 o),cs,t,a2,a3.mono hle⟩
  |tail u c=>rw[hx]at g2;obtain⟨a1,cs,t,a2,a3⟩:=g2;exact⟨fun o ho=>(hN o).trans (a1 o ho),cs,t,a2,a3⟩
  |map es k=>rw[hx]at g2;obtain⟨a1,l,a2,a3,a4⟩:=g2;exact⟨fun o=>(hN o).trans (a1 o),l,a2,a3,a4.mono hle⟩
theorem inv_start{M:Mem}{w0:Base}{w:World}{σ:Store}(hI:Inv Tryz.prog M w0 σ w):Inv Tryz.prog M ⟨w,M⟩ [] w:=
 ⟨rfl,rfl,rfl,Nat.le_refl _,fun _ _=>rfl,hI.imm,fun e he=>(by cases he),List.nodup_nil,hI.gl,GW.keep hI.gw hI.size fun k cs t f h=>hI.old k (Array.getElem?_eq_some_iff.1 h).1,fun _ _ _ h _=>h⟩
end Go.Proofs.YtbihckigennlhaaGreatDoor
