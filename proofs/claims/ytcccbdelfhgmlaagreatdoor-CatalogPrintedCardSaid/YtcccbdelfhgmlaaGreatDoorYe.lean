/- units.sorted, walked. -/
import Derived.Test.YtcccbdelfhgmlaaGreatDoorYd
import Derived.Sort.OwnSorted
set_option linter.unusedSimpArgs false
set_option linter.unusedVariables false
set_option linter.unusedSectionVars false
set_option maxRecDepth 100000
set_option maxHeartbeats 4000000
namespace Go.Proofs.YtcccbdelfhgmlaaGreatDoor
section
open Go.RowKit Go.Proofs Go.Tb Go.Maps Go.Sort
def oT(v:Value):Option (DataW Unit×List MemPlace):=match v with
 | .agg cs=>match cs.toList with
  |[.int .i64 h,.int .u64 l]=>some (.agg [.lit (.int .i64 h),.lit (.int .u64 l)],[])
  |_=>none
 |_=>none
def VD(c:Int×Int):Value:= .agg #[.int .i64 c.1,.int .u64 c.2]
theorem ax5{v:Value}{y:DataW Unit×List MemPlace}(h:oT v=some y):∃ c,v=VD c:=by
 unfold oT at h
 split at h
 ·rename_i cs
  split at h
  ·rename_i hh ll e
   exact⟨(hh,ll),Zy Value.agg (by apply YJ;simpa using e)⟩
  ·cases h
 ·cases h
theorem awv{w:World}{b n:Nat}{D:DataW Unit}(gh:w.ownsMap Tryz.prog 9 oT b n D)(kV:Maps.size D≤20000):Calls Tryz.prog 211 #[.map (some b)] w fun e w'=>
  ∃ (v:Value) (ss:List (List UInt8)),e= .returned v∧ss.Perm (strKeys D)∧w'.ownsRow w.heap.size 9 1 v ss.length ((ss.mergeSort (fun x y=>decide (x≤y))).map encStr)∧Below w.heap.size w w':=by
 obtain⟨i0,hi,ka,fA,np⟩:=info_parts FB
 have hY:=gh.lt
 go_enter Tryz.func211,Tryz.ntmps211
 go_wp2_with (at_range;refine wpList_range_own _ rfl _ 253 rfl 9 255 (string_keyed Tryz.underlying9) Tryz.underlying253 _ b n _ rfl gh ?_;intro w0 pQ od rj)
 go_frame
 go_loopw [3] (fun v wr=>∃ (left:Lit→Bool) (aI:Nat) (ss:List (List UInt8)),wr.ranges Tryz.prog 9 oT b w.heap.size n D left aI∧ss.length+aI≤Maps.size D∧wr.ownsRow w.heap.size 9 1 v ss.length (ss.map encStr)∧Collected D left ss∧Below w.heap.size w wr) (fun _ wr=>wr.rangeLeft b w.heap.size)
 case atStart=>exact⟨_,_,[],pQ,by simp,⟨by simp,.inl ⟨rfl,rfl⟩⟩,Collected.start D,(Below.refl _ _).grown od (ZR _) (fun j hj=>by cases hj)⟩
 obtain⟨left,aI,ss,vz,mV,nh,hC,lY⟩:=hrel
 go_wp2_with (at_next;refine wpList_next_ranges _ rfl _ rfl 9 (string_keyed Tryz.underlying9) oT encStr VD (fun key kl hk=>by obtain⟨x,hx,_⟩:=Maps.keyOf_str Tryz.underlying9 hk;exact⟨x,hx⟩) (fun v y hv=>ax5 hv) b w.heap.size n _ _ _ rfl vz ?_ ?_)
 ·intro fx kS
  rcases nh.2 with⟨vx,nf⟩|⟨g,cap,cur,rfl,Qn,hb,h1,h2,h3,h4⟩
  ·subst vx
   have iJ:ss=[]:=ZO nf
   subst iJ
   have hc:Calls Tryz.prog 49 #[.slice none 0 0] wr _:=Tryz.slices_Sort_string_none none 0 wr
   go_wp2_with (go_at_call 49;refine hc.mono ?_;rintro e w' ⟨rfl,rfl⟩)
   go_ret
   exact⟨_,[],rfl,hC.perm gh (string_keyed Tryz.underlying9) Tryz.underlying9 kS,(by rw[List.mergeSort_nil];exact nh),lY⟩
  ·have hH:Holds encStr wr g 0 ss.toArray:=holds_of_block hb (by simpa using h4)
   have hgl:g<wr.heap.size:=(ZX.1 hb).1
   have hc:Calls Tryz.prog 49 #[.slice (some ⟨g,0,none⟩) ss.length cap] wr _:=Tryz.slices_Sort_string g 0 cap ss wr hH hgl (by omega)
   go_wp2_with (go_at_call 49;refine hc.mono ?_;rintro e w' ⟨rfl,nn,os,rfl⟩)
   go_ret
   exact⟨_,ss,rfl,hC.perm gh (string_keyed Tryz.underlying9) Tryz.underlying9 kS,ownsRow_sorted (by simp) Qn hb h1 h2 h3,lY.grown (grownBy_sorted _) lY.size (fun j hj=>by cases hj;exact Qn)⟩
 ·intro x c1 c2 kl yd yp w2 abP Bq tj hv fP Re ax gP cI x6
  obtain⟨x',ex,rfl,_⟩:=Maps.keyOf_str Tryz.underlying9 Bq
  obtain rfl:x=x':=encStr_inj ex
  have Ee:=nh.kept gP (Or.inr (row_ne_iter nh vz).symm)
  clear cI
  go_wp2_with (at_builtin;refine wpList_append_own _ rfl _ _ 43 rfl w.heap.size 9 i0 (.string ⟨#[]⟩) 1 16 Tryz.underlying43 hi ka fA np rfl (by decide) _ _ _ rfl (Ee.alloc _) ⟨w2.heap.size,0,none⟩ 1 1 [encStr x] rfl rfl (cell_one_new _ _ _) (by simp[Value.oneCell',encStr]) (by unfold maxLen at *;omega) (by omega) (by have:=lY.size;have:=gP.size;simp;omega) ?_;intro v' w3 ae7 pJ ayy;go_frame)
  have Rf:=(Re.alloc _).kept pJ (row_ne_low Ee hY) (row_ne_iter Ee Re)
  go_roundw
  case rel=>
   refine⟨_,abP,ss++[x],Rf,by simp;omega,by simpa using ae7,hC.step tj fP,?_⟩
   exact((lY.grown gP lY.size (fun j hj=>by cases hj;exact ZR _)).alloc (by have:=lY.size;have:=gP.size;omega) _).grown pJ (by have:=lY.size;have:=gP.size;simp;omega) (fun j hj=>(Ee.lt j hj).1)
  case measure=>rw[Rf.left_eq,vz.left_eq];exact ax
end
section
open Go.Sx Go.Proofs Go.Tb Go.RowKit Go.Maps
theorem ax6{n:Int}:oT (wv n)=some (.agg [.lit (.int .i64 (jr n)),.lit (.int .u64 (gF n))],[]):=rfl
theorem axQ{M:Mem}{l:List MapEntry}{es:List (ae×Int)}(hk:l.map (fun e=>(e.key,e.born))=(wE es).map (fun e=>(e.1,e.2.1)))(hv:RL M ((wE es).map (·.2.2)) (l.map (·.val))):l.length=es.length∧∀ i (h:i<l.length) (h':i<es.length),l[i].key= .string es[i].1∧l[i].born=i∧l[i].val=wv es[i].2:=by
 rw[FW]at hk
 rw[FX]at hv
 refine⟨by have:=Zy List.length hk;simpa using this,fun i h h'=> ?_⟩
 have h5:=Zy (fun x=>x[i]?) hk
 simp[h,h']at h5
 have h6:=hv.2 i (by simpa using h') (by simpa using h)
 simp only[Zm]at h6
 exact⟨h5.1,h5.2,EV h6⟩
theorem Lx{e:MapEntry}{s:ae}{n:Int}(g1:e.key= .string s)(g3:e.val=wv n)(g4:s.size≤maxLen):WideElems.rd Tryz.prog 9 oT e=some (ky s,.agg [.lit (.int .i64 (jr n)),.lit (.int .u64 (gF n))]):=by
 unfold WideElems.rd
 simp only[g1,g3,WideMaps.keyOf_string_mk Tryz.underlying9 g4,Option.bind_some,ax6,Zh]
 rfl
theorem axR{l:List MapEntry}{es:List (ae×Int)}(hlen:l.length=es.length)(fP:∀ i (h:i<l.length) (h':i<es.length),l[i].key= .string es[i].1∧l[i].born=i∧l[i].val=wv es[i].2)(hn:(es.map Prod.fst).Nodup)(hs:∀ p∈es,p.1.size≤maxLen)(hl:es.length≤20000):
  WideElems.Fit Tryz.prog 9 oT l.toArray es.length:=by
 refine⟨by simp;unfold maxLen;omega,⟨fun x hx=> ?_,?_,?_⟩,fun x hx=> ?_⟩
 ·obtain⟨i,hi,rfl⟩:=Y5.1 hx
  have dk:i<l.length:=by simpa using hi
  simp only[]
  rw[(fP i dk (by omega)).2.1];omega
 ·have e:l.toArray.toList.map (fun x=>x.born)=List.range es.length:=by
   refine XP (by simp[hlen]) fun i h1 h2=> ?_
   have dk:i<l.length:=by simpa using h1
   simp[(fP i dk (by omega)).2.1]
  rw[e];exact List.nodup_range
 ·have e:l.toArray.toList.map (fun x=>x.key)=(es.map Prod.fst).map Value.string:=by
   refine XP (by simp[hlen]) fun i h1 h2=> ?_
   have dk:i<l.length:=by simpa using h1
   simp[(fP i dk (by omega)).1]
  rw[e]
  exact List.pairwise_map.2 (hn.imp fun h e=>h (by injection e))
 ·obtain⟨i,hi,rfl⟩:=Y5.1 hx
  have dk:i<l.length:=by simpa using hi
  obtain⟨g1,g2,g3⟩:=fP i dk (by omega)
  exact⟨_,Lx g1 g3 (hs es[i] (Zp (by omega)))⟩
theorem awu{σ:Store}{tg b:Nat}{es:List (ae×Int)}(hl:aR σ tg=some (b,.map (wE es) es.length))(hn:(es.map Prod.fst).Nodup)(hs:∀ p∈es,p.1.size≤maxLen)(hz:es.length≤20000):
  Sx.Spec Tryz.prog 211 [.eu tg b] σ fun r σ'=>r= .ret (jU (jT (es.map Prod.fst)))∧σ'=σ:=by
 intro M w0 w cs hI hR
 obtain⟨v,rfl,h1⟩:=RL.eg hR
 have g1:=h1.B5
 subst g1
 obtain⟨hM,l,hh,kR,mh⟩:=hI.AW hl
 obtain⟨hlen,fP⟩:=axQ kR mh
 have hF:=axR hlen fP hn hs hz
 have gh:=World.ownsMap_of_fit (R:=oT) hh hF (fun x _ z h=>h)
 have aQ:=gh.size_le
 have BN:l.toArray.size≤20000:=by simp;omega
 refine(awv gh (by omega)).mono fun e w' ⟨v,ss,he,hp,nh,hb⟩=> ?_
 have hk:∀ s:ae,s.size≤maxLen→has (DataW.map (List.foldr DataW.insert [] (List.map (WideElems.rg Tryz.prog 9 oT) l.toArray.toList))) (ky s)=decide (s∈es.map Prod.fst):=fun s ri=>by
  rw[YF,has_eq,YC,decide_eq_true_iff]
  constructor
  ·rintro⟨p,hp,afc⟩
   rw[mem_sorted]at hp
   obtain⟨x,hx,rfl⟩:=YX.1 hp
   obtain⟨i,hi,rfl⟩:=Y5.1 hx
   have dk:i<l.length:=by simpa using hi
   obtain⟨g1,g2,g3⟩:=fP i dk (by omega)
   have ox:=Lx g1 g3 (hs es[i] (Zp (by omega)))
   have e:=WideAt.sameKey_eq afc
   unfold WideElems.rg at e
   simp only[List.getElem_toArray,ox,Zx]at e
   have e2:=R7 e
   rw[← e2]
   exact YX.2 ⟨_,Zp (by omega),rfl⟩
  ·intro h
   obtain⟨p,hp,rfl⟩:=YX.1 h
   obtain⟨i,hi,rfl⟩:=Y5.1 hp
   obtain⟨g1,g2,g3⟩:=fP i (by omega) hi
   have ox:=Lx g1 g3 (hs es[i] hp)
   refine⟨WideElems.rg Tryz.prog 9 oT l[i],mem_sorted.2 (YX.2 ⟨l[i],by simp,rfl⟩),?_⟩
   unfold WideElems.rg
   rw[ox]
   exact WideAt.sameKey_self (yv _)
 obtain⟨S,g1,g2,g3⟩:=KZ Tryz.underlying9 gh (L:=es.map Prod.fst) (fun s h=>by obtain⟨p,hp,rfl⟩:=YX.1 h;exact hs p hp) hk hp nh
 have hS:S=jT (es.map Prod.fst):=oP g1 (y8 _) fun x=>by rw[g2,y7]
 refine⟨mr M w.heap.size w',.ret (jU (jT (es.map Prod.fst))),σ,J9 hI,RS hI hb,?_,rfl,rfl⟩
 subst he
 rw[← hS]
 exact B0 g3 (ZR _)
end
end Go.Proofs.YtcccbdelfhgmlaaGreatDoor
