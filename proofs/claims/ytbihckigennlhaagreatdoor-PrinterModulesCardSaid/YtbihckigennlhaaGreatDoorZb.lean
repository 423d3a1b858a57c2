/- bytes.IndexAny of a quote and a line's end: plain facts. -/
import Derived.Test.YtbihckigennlhaaGreatDoorVc
import Derived.Lib.RuneCountTail
import Derived.Lib.IndexBytes
import Derived.Lib.IndexAny
import Derived.Lib.IndexEntry
import Derived.Laws.Runes
import Derived.Handy
import Derived.BigFrame
import Derived.Shelf.Strings.IndexAny
import Derived.Test.YtbihckigennlhaaGreatDoorGi
import Derived.Test.YtbihckigennlhaaGreatDoorSxZ
set_option linter.unusedSimpArgs false
set_option linter.unusedVariables false
set_option maxRecDepth 100000
set_option maxHeartbeats 4000000
namespace Go.Proofs.YtbihckigennlhaaGreatDoor
open Go.Sx Go.Proofs
def fN(c:UInt8):Bool:=c == 34 || c == 10
def eU(l:List UInt8)(k:Nat):Prop:=∀ i,i<k→fN (l.getD i 0)=false
theorem OO(p:UInt8→Bool):∀ (l:List UInt8) (k:Nat),k<l.length→(∀ i,i<k→p (l.getD i 0)=true)→p (l.getD k 0)=false→aD p l=k
 |[],k,hk,_,_=>absurd hk (by simp)
 |a::l,0,_,_,h=>by
  have h:p a=false:=h
  simp[aD,ZG,h]
 |a::l,k+1,hk,hn,h=>by
  have h0:p a=true:=hn 0 (by omega)
  have:=OO p l k (by simpa using hk) (fun i hi=>by have:=hn (i+1) (by omega);simpa using this) (by simpa using h)
  unfold aD at this ⊢
  rw[ZG,h0,if_pos rfl,Z9,this]
theorem aak{l:List UInt8}{k:Nat}(hk:k<l.length)(h:fN (l.getD k 0)=true):34∈l∨10∈l:=by
 have e:l.getD k 0=l[k]:=by simp[Z1,hk]
 rw[e]at h
 have:=Y0 hk
 simp only[fN,Zl,beq_iff_eq]at h
 rcases h with h|h
 ·exact .inl (h ▸ this)
 ·exact .inr (h ▸ this)
theorem Di{l:List UInt8}{k:Nat}(hk:k<l.length)(hn:eU l k)(h:fN (l.getD k 0)=true):gD l=k:=by
 unfold gD
 rw[if_pos (aak hk h)]
 refine congrArg Int.ofNat (OO _ l k hk (fun i hi=> ?_) ?_)
 ·have:=hn i hi
  simp only[fN,Bool.or_eq_false_iff,YU]at this
  rw[Z0]
  exact⟨bne_iff_ne.2 this.1,bne_iff_ne.2 this.2⟩
 ·simp only[fN,Zl,beq_iff_eq]at h
  rcases h with h|h<;>simp only[h]<;>decide
theorem Dj{l:List UInt8}(hn:eU l l.length):gD l= -1:=by
 unfold gD
 rw[if_neg]
 have key:∀ c:UInt8,c∈l→fN c=false:=fun c hc=>by
  obtain⟨i,hi,e⟩:=List.getElem_of_mem hc
  have:=hn i hi
  rwa [show l.getD i 0=c by simp[Z1,hi,e]]at this
 rintro(h|h)
 ·exact absurd (key _ h) (by decide)
 ·exact absurd (key _ h) (by decide)
theorem eU.zero(l:List UInt8):eU l 0:=fun i hi=>absurd hi (Nat.not_lt_zero i)
theorem eU.succ{l:List UInt8}{k:Nat}(h:eU l k)(hc:fN (l.getD k 0)=false):eU l (k+1):=fun i hi=>by
 rcases Nat.lt_succ_iff_lt_or_eq.1 hi with h1|rfl
 ·exact h i h1
 ·exact hc
theorem Lg{c:UInt8}(h:128≤c.toNat):fN c=false:=by
 simp only[fN,Bool.or_eq_false_iff,YU]
 constructor
 all_goals
  rintro rfl
  revert h
  decide
theorem eU.more{l:List UInt8}{k n:Nat}(h:eU l k)(hc:∀ i,i<n→128≤(l.getD (k+i) 0).toNat):eU l (k+n):=fun i hi=>by
 by_cases h1:i<k
 ·exact h i h1
 ·have:=hc (i-k) (by omega)
  rw[show k+(i-k)=i by omega]at this
  exact Lg this
def qn:af:=⟨#[34,10]⟩
theorem Mc(c:UInt8):decide (0≤Lib.indexByte qn.data.toList c)=fN c:=by
 rw[← Lib.contains_iff_indexByte]
 show([34,10]:List UInt8).contains c=_
 simp only[fN,List.contains_cons,List.contains_nil,Bool.or_false]
theorem Vx(r:Nat):(Utf8.encode (r:Int)).size=if(Utf8.valid (r:Int))=true then(if r<128 then 1 else if r<2048 then 2 else if r<65536 then 3 else 4)else(Utf8.encode (r:Int)).size:=by
 split
 ·rename_i h
  unfold Utf8.encode
  simp only[h,Y7,Y8]
  repeat' split
  all_goals rfl
 ·rfl
theorem Vc(l:List UInt8)(h0:0<l.length)(h1:128≤(l.getD 0 0).toNat):Lib.decodeGo ⟨l.toArray⟩=(65533,1)∨
  (2≤(Lib.decodeGo ⟨l.toArray⟩).2∧(Lib.decodeGo ⟨l.toArray⟩).2≤4∧(Lib.decodeGo ⟨l.toArray⟩).2≤l.length∧128≤(Lib.decodeGo ⟨l.toArray⟩).1∧(Lib.decodeGo ⟨l.toArray⟩).1≤1114111∧(Utf8.encode ((Lib.decodeGo ⟨l.toArray⟩).1:Int)).size=(Lib.decodeGo ⟨l.toArray⟩).2∧Utf8.valid ((Lib.decodeGo ⟨l.toArray⟩).1:Int)=true∧∀ k,k<(Lib.decodeGo ⟨l.toArray⟩).2→128≤(l.getD k 0).toNat):=by
 have hs:(⟨l.toArray⟩:ByteArray).size=l.length:=by simp[ByteArray.size]
 have hg:∀ i,(⟨l.toArray⟩:ByteArray).get! i=l.getD i 0:=fun i=>by rw[← Lib.getD_get!']
 unfold Lib.decodeGo
 rw[hs,if_neg (by omega),Lib.decode_at,hs,hg,hg,hg,hg]
 simp only[Zh,Nat.sub_zero]
 generalize e0:(l.getD 0 0).toNat=b0 at *
 generalize e1:(l.getD 1 0).toNat=b1 at *
 generalize e2:(l.getD 2 0).toNat=b2 at *
 generalize e3:(l.getD 3 0).toNat=b3 at *
 have q:∀ n,n≤4→∀ k,k<n→k=0∨k=1∨k=2∨k=3:=by omega
 have key:∀ (r n:Nat),2≤n→n≤4→n≤l.length→128≤r→r≤1114111→(r<55296∨57344≤r)→(n=2→r<2048)→(n=3→2048≤r∧r<65536)→(n=4→65536≤r)→(1<n→128≤b1)→(2<n→128≤b2)→(3<n→128≤b3)→
   (2≤n∧n≤4∧n≤l.length∧128≤r∧r≤1114111∧(Utf8.encode (r:Int)).size=n∧Utf8.valid (r:Int)=true∧∀ k,k<n→128≤(l.getD k 0).toNat):=by
  intro r n a1 a2 a3 a4 a5 a6 a7 a8 a9 c1 c2 c3
  have hv:Utf8.valid (r:Int)=true:=by
   unfold Utf8.valid
   simp only[Z0,Zl,ZB]
   omega
  refine⟨a1,a2,a3,a4,a5,?_,hv,fun k hk=> ?_⟩
  ·rw[Vx,if_pos hv,if_neg (by omega)]
   split
   ·omega
   ·split<;>omega
  ·rcases q n a2 k hk with rfl|rfl|rfl|rfl
   ·rw[e0];exact h1
   ·rw[e1];exact c1 (by omega)
   ·rw[e2];exact c2 (by omega)
   ·rw[e3];exact c3 (by omega)
 unfold Lib.decodeN
 rw[if_neg (by omega)]
 split
 ·rename_i h
  split
  ·exact .inr (key _ 2 (by omega) (by omega) (by omega) (by omega) (by omega) (by omega) (by omega) (by omega) (by omega) (by omega) (by omega) (by omega))
  ·exact .inl rfl
 ·split
  ·rename_i h
   split
   ·rename_i h2
    exact .inr (key _ 3 (by omega) (by omega) (by omega) (by omega) (by omega) (by omega) (by omega) (by omega) (by omega) (by omega) (by omega) (by omega))
   ·exact .inl rfl
  ·split
   ·rename_i h
    split
    ·rename_i h2
     exact .inr (key _ 4 (by omega) (by omega) (by omega) (by omega) (by omega) (by omega) (by omega) (by omega) (by omega) (by omega) (by omega) (by omega))
    ·exact .inl rfl
   ·exact .inl rfl
end Go.Proofs.YtbihckigennlhaaGreatDoor
set_option linter.unusedSectionVars false
set_option maxHeartbeats 8000000
namespace Go.Proofs.YtbihckigennlhaaGreatDoor
open Go.RowKit Go.Proofs
theorem Gr(n:Int)(w:World):Calls Tryz.prog 139 #[.int .i64 n] w fun e w'=>e= .returned (.bool (decide (8<n)))∧w'=w:=by
 go_enter Tryz.func139,Tryz.ntmps139
 go_wp2
 go_ret
 exact⟨rfl,rfl⟩
theorem Me(c:UInt8)(w:World):(callFunc 137 #[.string qn,.int .u8 c.toNat]).run Tryz.prog w= .ok (.value (.int .i64 (Lib.indexByte qn.data.toList c))) w:=by
 rw[run_callFunc_extern Tryz.func137 (by kernel_rfl) (by kernel_rfl) (by kernel_rfl) (e:=Extern.BytealgIndexByte.indexByte) (by kernel_rfl),Lib.run_indexByteString]
 have:((c.toNat:Int).toNat.toUInt8)=c:=by simp
 rw[this]
 rfl
theorem PT{x:Nat}(h:x<256):wrap32 (x:Int)=x:=by
 unfold wrap32
 omega
def rU(p:Prop):Prop:=p
theorem adP{R:Nat}(hv:Utf8.valid (R:Int)=true)(h:128≤R):(qn.toList == (Utf8.encode (R:Int)).toList)=false:=by
 rw[Lib.toList_data,Lib.toList_data,YU]
 intro e
 have e2:qn=Utf8.encode (R:Int):=by
  cases h1:qn;cases h2:Utf8.encode (R:Int)
  rw[h1,h2]at e
  exact congrArg ByteArray.mk (Array.toList_inj.1 e)
 obtain⟨_,_,h3⟩:=encode_facts (R:Int) hv (by omega)
 rw[← e2]at h3
 exact absurd (h3 (by decide)) (by decide)
theorem ayk{R N:Nat}(w:World){m:Int}(hm:w.cell? ⟨3,0,none⟩=some (.int .i64 m))(hs:(Utf8.encode (R:Int)).size=N)(h3:3≤N)(hN:(N:Int)≤m):(callFunc 143 #[.string qn,.string (Utf8.encode (R:Int))]).run Tryz.prog w= .ok (.value (.int .i64 (-1))) w:=by
 rw[run_callFunc_extern Tryz.func143 (by kernel_rfl) (by kernel_rfl) (by kernel_rfl) (e:=Extern.BytealgIndex.index) (by kernel_rfl),Lib.run_indexString qn _ w 3 m (by kernel_rfl) hm (by omega) (by rw[hs];exact hN) (by decide)]
 have h4:Lib.index qn.data.toList (Utf8.encode (R:Int)).data.toList= -1:=Lib.long qn _ (by show 2≤_;omega) (by
  rw[Lib.toList_data,Lib.toList_data,YU]
  intro e
  have:=congrArg List.length e
  rw[← Lib.size_eq,← Lib.size_eq,hs]at this
  have:N=2:=this
  omega)
 rw[h4]
 rfl
theorem Vb{w:World}{b off cap:Nat}{l:List UInt8}(hT:Lib.Utf8Tabs 5 6 w)(hc:∀ i,i<l.length→w.cell? ⟨b,off+i,none⟩=some (.int .u8 (l.getD i 0).toNat)){k:Nat}(hk:k<l.length)(h1:128≤(l.getD k 0).toNat):
  ∃ R N:Nat,Calls Tryz.prog 142 #[.slice (some ⟨b,off+k,none⟩) (l.length-k) (cap-k)] w (fun e w'=>e= .returned (.tuple #[.int .i32 R,.int .i64 N])∧Below w.heap.size w w')∧128≤R∧1≤N∧k+N≤l.length∧(∀ i,i<N→128≤(l.getD (k+i) 0).toNat)∧
   (R=65533∨(R≠65533∧(Utf8.encode (R:Int)).size=N∧2≤N∧(qn.toList == (Utf8.encode (R:Int)).toList)=false)):=by
 have hs:(⟨(l.drop k).toArray⟩:ByteArray).size=l.length-k:=by simp[ByteArray.size]
 have hg:∀ i,(⟨(l.drop k).toArray⟩:ByteArray).get! i=l.getD (k+i) 0:=fun i=>by
  rw[← Lib.getD_get!']
  show(l.drop k).getD i 0=_
  simp[Z1]
 have Bb:∀ i,(l.drop k).getD i 0=l.getD (k+i) 0:=fun i=>by simp[Z1]
 have my:=Any7.utf8_DecodeRune U7 ⟨(l.drop k).toArray⟩ b (off+k) (cap-k) w hT (fun j hj=>by
  rw[hs]at hj
  rw[hg,show off+k+j=off+(k+j) by omega]
  exact hc _ (by omega))
 rw[hs]at my
 refine⟨_,_,my,?_⟩
 rcases Vc (l.drop k) (by simp;omega) (by rw[Bb,YN];exact h1)with h|⟨h2,h3,h4,h5,h6,h7,h8,h9⟩
 ·rw[h]
  refine⟨by decide,ZI _,hk,fun i hi=> ?_,.inl rfl⟩
  have cH:i<1:=hi
  obtain rfl:i=0:=by omega
  exact h1
 ·rw[Zx]at h4
  refine⟨h5,by omega,by omega,fun i hi=>by rw[← Bb];exact h9 i hi,?_⟩
  by_cases hR:(Lib.decodeGo ⟨(l.drop k).toArray⟩).1=65533
  ·exact .inl hR
  ·exact .inr ⟨hR,h7,h2,adP h8 h5⟩
theorem Ni(w:World)(ty:TypeId):(Instr.next (.pointer (some ⟨w.heap.size,0,none⟩)) true ty).run Tryz.prog (w.iter qn 0)= .ok (.tuple #[.bool true,.int .i64 0,.int .i32 34]) (w.iter qn 1):=run_next_ascii w qn 0 ty (by decide) (by decide)
theorem Nj(w:World)(ty:TypeId):(Instr.next (.pointer (some ⟨w.heap.size,0,none⟩)) true ty).run Tryz.prog (w.iter qn 1)= .ok (.tuple #[.bool true,.int .i64 1,.int .i32 10]) (w.iter qn 2):=run_next_ascii w qn 1 ty (by decide) (by decide)
theorem Nk(w:World)(ty:TypeId):(Instr.next (.pointer (some ⟨w.heap.size,0,none⟩)) true ty).run Tryz.prog (w.iter qn 2)= .ok (.tuple #[.bool false]) (w.iter qn 2):=run_next_end w qn 2 ty (by decide)
theorem ayt{w w':World}(hT:Lib.Utf8Tabs 5 6 w)(hb:Below w.heap.size w w'):Lib.Utf8Tabs 5 6 w':=by
 refine⟨fun c h=> ?_,fun i h=>⟨?_,?_⟩⟩
 ·have:=hT.1 c h;rw[hb.cell (block_lt_of_cell this)];exact this
 ·have:=(hT.2 i h).1;rw[hb.cell (block_lt_of_cell this)];exact this
 ·have:=(hT.2 i h).2;rw[hb.cell (block_lt_of_cell this)];exact this
set_option maxHeartbeats 1000000 in
theorem Tz{w:World}{b off cap:Nat}{l:List UInt8}(h1:l.length≠1)(h8:l.length≤8)(lE:l.length≤cap)(nQ:cap≤maxLen)(hb:0<l.length→b<w.heap.size)
  (hc:∀ i,i<l.length→w.cell? ⟨b,off+i,none⟩=some (.int .u8 (l.getD i 0).toNat)) (hT:Lib.Utf8Tabs 5 6 w) {m:Int} (hm:w.cell? ⟨3,0,none⟩=some (.int .i64 m)):
  Calls Tryz.prog 96 #[.slice (some ⟨b,off,none⟩) l.length cap,.string qn] w fun e w'=>e= .returned (.int .i64 (gD l))∧Below w.heap.size w w':=by
 have nR:((l.length:Int) == 1)=false:=YU.2 (by omega)
 have D3:decide ((8:Int)<(l.length:Int))=false:=Zp (by omega)
 have sT:qn.toList.isEmpty=false:=by rw[Lib.toList_data];rfl
 have yj:qn.size=2:=rfl
 have qC:=block_lt_of_cell hm
 have EG:=Me
 have sZ:=Mc
 have D5:= @Vb
 have LO:= @ayk
 have kB:=Ni
 have nS:=Nj
 have ib:=Nk
 obtain⟨q,kD⟩:∃ q,qn=q:=⟨_,rfl⟩
 rw[kD]at sT yj EG sZ LO D5 kB nS ib ⊢
 clear kD
 go_enter Tryz.func96,Tryz.ntmps96
 go_wp2_with (go_at_call 139;refine(Gr _ _).mono ?_;rintro e w' ⟨rfl,hw⟩;rw[hw,D3])
 go_loopw [12] (fun i wr=>∃ k:Nat,i= .int .i64 k∧k≤l.length∧eU l k∧Below w.heap.size w wr) (fun i _=>l.length-(intOf i).toNat)
 case atStart=>exact⟨0,rfl,by omega,eU.zero l,Below.refl _ _⟩
 case round=>
  obtain⟨k,rfl,hk,fA,iW⟩:=hrel
  by_cases qG:k<l.length
  ·have xV:wr.cell? ⟨b,off+k,none⟩=some (.int .u8 (l.getD k 0).toNat):=by rw[iW.cell (hb (by omega))];exact hc k qG
   have hd:((k:Int)<(l.length:Int)):=by omega
   obtain⟨c,gK⟩:∃ c,l.getD k 0=c:=⟨_,rfl⟩
   have qF:=fun w=>EG c w
   have hq:=sZ c
   have qQ:c.toNat<256:=c.toNat_lt
   have yc:wr.cell? ⟨3,0,none⟩=some (.int .i64 m):=by rw[iW.cell qC];exact hm
   have AZ:128≤c.toNat→_:=fun h=>D5 (cap:=cap) (k:=k) (ayt hT iW) (fun i hi=>by rw[iW.cell (hb (by omega))];exact hc i hi) qG (by rw[gK];exact h)
   rw[gK]at xV
   obtain⟨x,hx⟩:∃ x,c.toNat=x:=⟨_,rfl⟩
   rw[hx]at xV qF qQ AZ
   have aaN:=PT qQ
   have HN:rU (eU l k):=fA
   have HB:rU (Below w.heap.size w wr):=iW
   have HC:rU (l.getD k 0=c):=gK
   clear fA hc hT hb gK iW EG sZ D5
   by_cases ha:x<128
   ·have Ei:((x:Int)<128):=by omega
    clear AZ
    obtain⟨y,hy⟩:∃ y,Lib.indexByte q.data.toList c=y:=⟨_,rfl⟩
    rw[hy]at hq qF
    cases hh:fN c
    ·rw[hh]at hq
     have hq:¬(0≤y):=of_decide_eq_false hq
     go_wp2
     go_roundw
     case measure=>simp only[intOf];omega
     case rel=>exact⟨k+1,by push_cast;rfl,by omega,eU.succ HN (by rw[HC];exact hh),HB⟩
    ·rw[hh]at hq
     have hq:0≤y:=of_decide_eq_true hq
     go_wp2
     go_ret
     have hA:gD l=k:=Di qG HN (by rw[HC];exact hh)
     exact⟨by rw[hA];rfl,HB⟩
   ·have Ei:¬((x:Int)<128):=by omega
    obtain⟨R,N,my,azK,sJ,hkN,sO,hR⟩:=AZ (by omega)
    clear AZ qF hq
    have HY:rU (∀ i,i<N→128≤(l.getD (k+i) 0).toNat):=sO
    clear sO
    obtain⟨r,hr⟩:∃ r:Int,(R:Int)=r:=⟨_,rfl⟩
    have aX:(r == 34)=false:=YU.2 (by omega)
    have cJ:(r == 10)=false:=YU.2 (by omega)
    rcases hR with hR|⟨hR,hsz,qB,aQ⟩
    ·have Xn:(r == 65533)=true:=beq_iff_eq.2 (by omega)
     rw[hr]at my
     clear hR hr
     go_wp2_with (go_at_call 142;refine my.mono ?_;rintro e w2 ⟨rfl,fx⟩)
     have sN:Below w.heap.size w (w2.iter q 2):=(Below.trans HB (fx.mono HB.size)).alloc (by have:=HB.size;have:=fx.size;omega) _
     have Lx:=kB w2
     have Ly:=nS w2
     have Lz:=ib w2
     clear kB nS ib
     refine wp_loop_rounds 3 ?_
     rw[rounds_succ]
     go_wp2
     rw[rounds_succ]
     go_wp2
     rw[rounds_succ]
     go_wp2
     go_roundw
     case measure=>simp only[intOf];omega
     case rel=>exact⟨k+N,by push_cast;rfl,by omega,eU.more HN HY,sN⟩
    ·have Xm:¬(r=65533):=by omega
     have Xn:(r == 65533)=false:=YU.2 Xm
     obtain⟨t,ht⟩:∃ t,Utf8.encode (R:Int)=t:=⟨_,rfl⟩
     have ep:=fun(w:World) (hm:w.cell? ⟨3,0,none⟩=some (.int .i64 m)) (h3:3≤N) (hN:(N:Int)≤m)=>LO (R:=R) w hm hsz h3 hN
     rw[ht]at hsz aQ ep
     rw[hr]at my ht
     clear hR hr
     by_cases h2:N=2
     ·subst h2
      clear ep
      go_wp2_with (go_at_call 142;refine my.mono ?_;rintro e w2 ⟨rfl,fx⟩)
      go_roundw
      case measure=>simp only[intOf];omega
      case rel=>exact⟨k+2,by push_cast;rfl,by omega,eU.more HN HY,Below.trans HB (fx.mono HB.size)⟩
     ·have hNb:((2:Int) == (N:Int))=false:=YU.2 (by omega)
      have K0:=block_lt_of_cell yc
      by_cases Xg:(N:Int)≤m
      ·have s6:=fun w hm=>ep w hm (by omega) Xg
       clear ep
       go_wp2_with (go_at_call 142;refine my.mono ?_;rintro e w2 ⟨rfl,fx⟩;have lJ:w2.cell? ⟨3,0,none⟩=some (.int .i64 m):=(by rw[fx.cell K0];exact yc);have ew:=s6 w2 lJ;clear s6 yc hm)
       go_roundw
       case measure=>simp only[intOf];omega
       case rel=>exact⟨k+N,by push_cast;rfl,by omega,eU.more HN HY,Below.trans HB (fx.mono HB.size)⟩
      ·clear ep
       go_wp2_with (go_at_call 142;refine my.mono ?_;rintro e w2 ⟨rfl,fx⟩;have lJ:w2.cell? ⟨3,0,none⟩=some (.int .i64 m):=(by rw[fx.cell K0];exact yc);clear yc hm)
       have sN:Below w.heap.size w (w2.iter q 2):=(Below.trans HB (fx.mono HB.size)).alloc (by have:=HB.size;have:=fx.size;omega) _
       have Lx:=kB w2
       have Ly:=nS w2
       have Lz:=ib w2
       clear kB nS ib
       refine wp_loop_rounds 3 ?_
       rw[rounds_succ]
       go_wp2
       rw[rounds_succ]
       go_wp2
       rw[rounds_succ]
       go_wp2
       go_roundw
       case measure=>simp only[intOf];omega
       case rel=>exact⟨k+N,by push_cast;rfl,by omega,eU.more HN HY,sN⟩
  ·have hd:¬((k:Int)<(l.length:Int)):=by omega
   obtain rfl:k=l.length:=by omega
   clear hc hT
   go_wp2
   go_ret
   exact⟨by rw[Dj fA];rfl,iW⟩
end Go.Proofs.YtbihckigennlhaaGreatDoor
namespace Go.Proofs.YtbihckigennlhaaGreatDoor
open Go.Sx Go.Proofs
def f256:List AV:=List.replicate 256 (.v (.bool false))
def Cc:Nat→List AV
 |0=>f256
 |1=>f256.set 34 (.v (.bool true))
 |_=>(f256.set 34 (.v (.bool true))).set 10 (.v (.bool true))
theorem ayg(i:Nat):(Cc i).length=256:=by
 match i with
 |0=>rfl
 |1=>rfl
 |_+2=>rfl
theorem axT:Pure Tryz.prog 140 [sv qn] (.aI [.agg (Cc 2),.v (.bool true)]):=by
 refine Pure.cY (fun i=>bif Nat.beq i 1000001 then 1 else bif Nat.beq i 1000000 then 1 else 0) Tryz.func140 Uz VJ (Z8 rfl) fun σ=> ?_
 first|refine .k1 ?_|fail
 first|refine .k2 ?_|fail
 refine xh (cs:=f256) rfl (fun b0=> ?_)
 repeat'((fail_if_success (show WK _ _ _ _ _ _ _ _));(first|exact .nil|refine .k0 ?_|refine .k1 ?_|refine .r1 ?_ ?_|fail))
 repeat'(first|exact .nil|refine .k0 ?_|refine .k1 ?_|refine .k2 ?_|refine .k6 ?_|refine .r1 ?_ ?_|fail)
 refine cQ (fun m rg σ'=>∃ i:Nat,i≤2∧m=2-i∧σ'=(2,b0,.cells (Cc i))::σ∧rg=[(0,sv qn),(2,.lp 2 b0 0),(4,iv i)]) 2 rfl ⟨_,_,Zr,Zs,0,ZK _,rfl,rfl,rfl⟩ ?_
 rintro m _ _ ⟨i,hi,hm,rfl,rfl⟩
 match i,hi with
 |0,_=>
  repeat'(first|exact .nil|refine .k0 ?_|refine .k1 ?_|refine .k2 ?_|refine .k6 ?_|refine .k7 ?_|refine .k8 ?_|refine .k9 ?_|(refine .cd ?_ ?_<;>(intro hc;skip))|refine .r1 ?_ ?_|refine .t5 ?_ ?_ ?_|fail)
  all_goals first|(exact absurd hc (by decide))|(intro _;exact⟨by decide,by decide⟩)|(exact⟨by decide,by decide⟩)|(exact⟨m-1,by omega,_,_,Zr,Zs,1,by omega,by omega,rfl,rfl⟩)|(show Sx.Fin _ _ _ _;(refine Sx.Fin.wk Zs ?_;repeat' fail);done)|skip
 |1,_=>
  repeat'(first|exact .nil|refine .k0 ?_|refine .k1 ?_|refine .k2 ?_|refine .k6 ?_|refine .k7 ?_|refine .k8 ?_|refine .k9 ?_|(refine .cd ?_ ?_<;>(intro hc;skip))|refine .r1 ?_ ?_|refine .t5 ?_ ?_ ?_|fail)
  all_goals first|(exact absurd hc (by decide))|(intro _;exact⟨by decide,by decide⟩)|(exact⟨by decide,by decide⟩)|(exact⟨m-1,by omega,_,_,Zr,Zs,2,by omega,by omega,rfl,rfl⟩)|(show Sx.Fin _ _ _ _;(refine Sx.Fin.wk Zs ?_;repeat' fail);done)|skip
 |2,_=>
  repeat'(first|exact .nil|refine .k0 ?_|refine .k1 ?_|refine .k2 ?_|refine .k6 ?_|refine .k7 ?_|refine .k8 ?_|refine .k9 ?_|(refine .cd ?_ ?_<;>(intro hc;first|exact kf hc (by assumption)|skip))|refine .r1 ?_ ?_|refine .t5 ?_ ?_ ?_|fail)
  all_goals first|(exact absurd hc (by decide))|(show Sx.Fin _ _ _ _;(refine Sx.Fin.wk Zs ?_;repeat' first|exact .refl _|fail);done)|fail
end Go.Proofs.YtbihckigennlhaaGreatDoor
namespace Go.Proofs.YtbihckigennlhaaGreatDoor
open Go.RowKit Go.Proofs
open Go.Sx (AV Inv Mem RL R Glob Store BlkOK Base)
def mO(M:Mem)(n:Nat)(w':World):Mem:=fun b o=>if n≤b then w'.cell? ⟨b,o,none⟩else M b o
theorem MX{M:Mem}{w0:Base}{w w':World}{σ:Store}(hI:Inv Tryz.prog M w0 σ w):M.le (mO M w.heap.size w'):=fun b o v h=>by
 have:=World.block_lt_of_cell? _ _ (hI.dB b o v h)
 unfold mO
 rw[if_neg (by simp at this;omega)];exact h
theorem aa3{M:Mem}{w0:Base}{w w':World}{σ:Store}(hI:Inv Tryz.prog M w0 σ w)(hb:Below w.heap.size w w'):Inv Tryz.prog (mO M w.heap.size w') w0 σ w':=by
 have h1:=hI.after hb
 have hle:=MX (w':=w') hI
 refine⟨h1.os,h1.tape,h1.output,h1.size,h1.old,fun b o v h=> ?_,fun e he=> ?_,h1.nd,fun g l hl=>(h1.gl g l hl).mono hle,h1.gw,fun b o v hv aH=>h1.bm b o v (by unfold mO at hv;rwa [if_neg (by have:=hI.size;omega)]at hv) aH⟩
 ·unfold mO at h
  split at h
  ·exact h
  ·exact h1.dB b o v h
 ·obtain⟨g1,g2⟩:=h1.st e he
  refine⟨g1,?_⟩
  obtain⟨_,g3⟩:=hI.st e he
  have aH:e.2.1<w.heap.size:=by
   cases hx:e.2.2 with
   |cells l=>rw[hx]at g3;obtain⟨_,cs,t,a2,_⟩:=g3;exact(Zq.1 a2).1
   |tail u c=>rw[hx]at g3;obtain⟨_,cs,t,a2,_⟩:=g3;exact(Zq.1 a2).1
   |map es k=>rw[hx]at g3;obtain⟨_,l,a2,_⟩:=g3;exact(Zq.1 a2).1
  have hN:∀ o,mO M w.heap.size w' e.2.1 o=M e.2.1 o:=fun o=>by unfold mO;rw[if_neg (by omega)]
  cases hx:e.2.2 with
  |cells l=>rw[hx]at g2;obtain⟨a1,cs,t,a2,a3⟩:=g2;exact⟨fun o=>(hN o).trans (a1 o),cs,t,a2,a3.mono hle⟩
  |tail u c=>rw[hx]at g2;obtain⟨a1,cs,t,a2,a3⟩:=g2;exact⟨fun o ho=>(hN o).trans (a1 o ho),cs,t,a2,a3⟩
  |map es k=>rw[hx]at g2;obtain⟨a1,l,a2,a3,a4⟩:=g2;exact⟨fun o=>(hN o).trans (a1 o),l,a2,a3,a4.mono hle⟩
theorem Mj{M:Mem}{w0:Base}{w:World}{σ:Store}(hI:Inv Tryz.prog M w0 σ w):Inv Tryz.prog M ⟨w,M⟩ [] w:=
 ⟨rfl,rfl,rfl,ZI _,fun _ _=>rfl,hI.dB,fun e he=>(by cases he),List.nodup_nil,hI.gl,GW.keep hI.gw hI.size fun k cs t f h=>hI.old k (Zq.1 h).1,fun _ _ _ h _=>h⟩
end Go.Proofs.YtbihckigennlhaaGreatDoor
