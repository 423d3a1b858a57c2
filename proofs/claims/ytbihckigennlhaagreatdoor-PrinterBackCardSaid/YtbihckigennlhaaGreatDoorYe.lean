/- units.sorted, walked. -/
import Derived.Test.YtbihckigennlhaaGreatDoorYd
import Derived.Sort.OwnSorted
set_option linter.unusedSimpArgs false
set_option linter.unusedVariables false
set_option linter.unusedSectionVars false
set_option maxRecDepth 100000
set_option maxHeartbeats 4000000
namespace Go.Proofs.YtbihckigennlhaaGreatDoor
section
open Go.RowKit Go.Proofs Go.Tb Go.Maps Go.Sort
def wideElem(v:Value):Option (DataW Unit×List MemPlace):=match v with
 | .agg cs=>match cs.toList with
  |[.int .i64 h,.int .u64 l]=>some (.agg [.lit (.int .i64 h),.lit (.int .u64 l)],[])
  |_=>none
 |_=>none
def wideV(c:Int×Int):Value:= .agg #[.int .i64 c.1,.int .u64 c.2]
theorem wideElem_inv{v:Value}{y:DataW Unit×List MemPlace}(h:wideElem v=some y):∃ c,v=wideV c:=by
 unfold wideElem at h
 split at h
 ·rename_i cs
  split at h
  ·rename_i hh ll e
   exact⟨(hh,ll),congrArg Value.agg (by apply Array.ext';simpa using e)⟩
  ·cases h
 ·cases h
theorem sortedW_walk{w:World}{b n:Nat}{D:DataW Unit}(hown:w.ownsMap Tryz.prog 9 wideElem b n D)(hmax:Maps.size D≤20000):Calls Tryz.prog 184 #[.map (some b)] w fun e w'=>
  ∃ (v:Value) (ss:List (List UInt8)),e= .returned v∧ss.Perm (strKeys D)∧w'.ownsRow w.heap.size 9 1 v ss.length ((ss.mergeSort (fun x y=>decide (x≤y))).map encStr)∧Below w.heap.size w w':=by
 obtain⟨i0,hi,hz0,hz1,hz2⟩:=info_parts strInfo
 have hbl:=hown.lt
 go_enter Tryz.func184,Tryz.ntmps184
 go_wp2_with (at_range;refine wpList_range_own _ rfl _ 209 rfl 9 212 (string_keyed Tryz.underlying9) Tryz.underlying209 _ b n _ rfl hown ?_;intro w0 hrg0 hg0 hs0)
 go_frame
 go_loopw [3] (fun v wr=>∃ (left:Lit→Bool) (cnt:Nat) (ss:List (List UInt8)),wr.ranges Tryz.prog 9 wideElem b w.heap.size n D left cnt∧ss.length+cnt≤Maps.size D∧wr.ownsRow w.heap.size 9 1 v ss.length (ss.map encStr)∧Collected D left ss∧Below w.heap.size w wr) (fun _ wr=>wr.rangeLeft b w.heap.size)
 case atStart=>exact⟨_,_,[],hrg0,by simp,⟨by simp,.inl ⟨rfl,rfl⟩⟩,Collected.start D,(Below.refl _ _).grown hg0 (Nat.le_refl _) (fun j hj=>by cases hj)⟩
 obtain⟨left,cnt,ss,hrg,hcs,hrow,hC,hnx⟩:=hrel
 go_wp2_with (at_next;refine wpList_next_ranges _ rfl _ rfl 9 (string_keyed Tryz.underlying9) wideElem encStr wideV (fun key kl hk=>by obtain⟨x,hx,_⟩:=Maps.keyOf_str Tryz.underlying9 hk;exact⟨x,hx⟩) (fun v y hv=>wideElem_inv hv) b w.heap.size n _ _ _ rfl hrg ?_ ?_)
 ·intro hc0 hl0
  rcases hrow.2 with⟨hnil,hn0⟩|⟨g,cap,cur,rfl,hbase,hb,h1,h2,h3,h4⟩
  ·subst hnil
   have hss:ss=[]:=List.eq_nil_of_length_eq_zero hn0
   subst hss
   have hc:Calls Tryz.prog 209 #[.slice none 0 0] wr _:=Tryz.slices_Sort_string_none none 0 wr
   go_wp2_with (go_at_call 209;refine hc.mono ?_;rintro e w' ⟨rfl,rfl⟩)
   go_ret
   exact⟨_,[],rfl,hC.perm hown (string_keyed Tryz.underlying9) Tryz.underlying9 hl0,(by rw[List.mergeSort_nil];exact hrow),hnx⟩
  ·have hH:Holds encStr wr g 0 ss.toArray:=holds_of_block hb (by simpa using h4)
   have hgl:g<wr.heap.size:=(Array.getElem?_eq_some_iff.1 hb).1
   have hc:Calls Tryz.prog 209 #[.slice (some ⟨g,0,none⟩) ss.length cap] wr _:=Tryz.slices_Sort_string g 0 cap ss wr hH hgl (by omega)
   go_wp2_with (go_at_call 209;refine hc.mono ?_;rintro e w' ⟨rfl,nn,os,rfl⟩)
   go_ret
   exact⟨_,ss,rfl,hC.perm hown (string_keyed Tryz.underlying9) Tryz.underlying9 hl0,ownsRow_sorted (by simp) hbase hb h1 h2 h3,hnx.grown (grownBy_sorted _) hnx.size (fun j hj=>by cases hj;exact hbase)⟩
 ·intro x c1 c2 kl yd yp w2 cnt2 hkey hlk hv hat hrg2 hlt hg2 hs2 hen
  obtain⟨x',ex,rfl,_⟩:=Maps.keyOf_str Tryz.underlying9 hkey
  obtain rfl:x=x':=encStr_inj ex
  have hrow2:=hrow.kept hg2 (Or.inr (row_ne_iter hrow hrg).symm)
  clear hs2
  go_wp2_with (at_builtin;refine wpList_append_own _ rfl _ _ 128 rfl w.heap.size 9 i0 (.string ⟨#[]⟩) 1 16 Tryz.underlying128 hi hz0 hz1 hz2 rfl (by decide) _ _ _ rfl (hrow2.alloc _) ⟨w2.heap.size,0,none⟩ 1 1 [encStr x] rfl rfl (cell_one_new _ _ _) (by simp[Value.oneCell',encStr]) (by unfold maxLen at *;omega) (by omega) (by have:=hnx.size;have:=hg2.size;simp;omega) ?_;intro v' w3 hown' hg3 hnil3;go_frame)
  have hrg3:=(hrg2.alloc _).kept hg3 (row_ne_low hrow2 hbl) (row_ne_iter hrow2 hrg2)
  go_roundw
  case rel=>
   refine⟨_,cnt2,ss++[x],hrg3,by simp;omega,by simpa using hown',hC.step hlk hat,?_⟩
   exact((hnx.grown hg2 hnx.size (fun j hj=>by cases hj;exact Nat.le_refl _)).alloc (by have:=hnx.size;have:=hg2.size;omega) _).grown hg3 (by have:=hnx.size;have:=hg2.size;simp;omega) (fun j hj=>(hrow2.lt j hj).1)
  case measure=>rw[hrg3.left_eq,hrg.left_eq];exact hlt
end
section
open Go.Sx Go.Proofs Go.Tb Go.RowKit Go.Maps
theorem wideElem_w{n:Int}:wideElem (wv n)=some (.agg [.lit (.int .i64 (hiW n)),.lit (.int .u64 (loW n))],[]):=rfl
theorem wE_at{M:Mem}{l:List MapEntry}{es:List (Str×Int)}(hk:l.map (fun e=>(e.key,e.born))=(wE es).map (fun e=>(e.1,e.2.1)))(hv:RL M ((wE es).map (·.2.2)) (l.map (·.val))):l.length=es.length∧∀ i (h:i<l.length) (h':i<es.length),l[i].key= .string es[i].1∧l[i].born=i∧l[i].val=wv es[i].2:=by
 rw[wE_keys]at hk
 rw[wE_vals]at hv
 refine⟨by have:=congrArg List.length hk;simpa using this,fun i h h'=> ?_⟩
 have h5:=congrArg (fun x=>x[i]?) hk
 simp[h,h']at h5
 have h6:=hv.2 i (by simpa using h') (by simpa using h)
 simp only[List.getElem_map]at h6
 exact⟨h5.1,h5.2,of_wA h6⟩
theorem wE_rd{e:MapEntry}{s:Str}{n:Int}(g1:e.key= .string s)(g3:e.val=wv n)(g4:s.size≤maxLen):WideElems.rd Tryz.prog 9 wideElem e=some (ky s,.agg [.lit (.int .i64 (hiW n)),.lit (.int .u64 (loW n))]):=by
 unfold WideElems.rd
 simp only[g1,g3,WideMaps.keyOf_string_mk Tryz.underlying9 g4,Option.bind_some,wideElem_w,Option.map_some]
 rfl
theorem wE_fit{l:List MapEntry}{es:List (Str×Int)}(hlen:l.length=es.length)(hat:∀ i (h:i<l.length) (h':i<es.length),l[i].key= .string es[i].1∧l[i].born=i∧l[i].val=wv es[i].2)(hn:(es.map Prod.fst).Nodup)(hs:∀ p∈es,p.1.size≤maxLen)(hl:es.length≤20000):
  WideElems.Fit Tryz.prog 9 wideElem l.toArray es.length:=by
 refine⟨by simp;unfold maxLen;omega,⟨fun x hx=> ?_,?_,?_⟩,fun x hx=> ?_⟩
 ·obtain⟨i,hi,rfl⟩:=List.mem_iff_getElem.1 hx
  have hi':i<l.length:=by simpa using hi
  simp only[]
  rw[(hat i hi' (by omega)).2.1];omega
 ·have e:l.toArray.toList.map (fun x=>x.born)=List.range es.length:=by
   refine List.ext_getElem (by simp[hlen]) fun i h1 h2=> ?_
   have hi':i<l.length:=by simpa using h1
   simp[(hat i hi' (by omega)).2.1]
  rw[e];exact List.nodup_range
 ·have e:l.toArray.toList.map (fun x=>x.key)=(es.map Prod.fst).map Value.string:=by
   refine List.ext_getElem (by simp[hlen]) fun i h1 h2=> ?_
   have hi':i<l.length:=by simpa using h1
   simp[(hat i hi' (by omega)).1]
  rw[e]
  exact List.pairwise_map.2 (hn.imp fun h e=>h (by injection e))
 ·obtain⟨i,hi,rfl⟩:=List.mem_iff_getElem.1 hx
  have hi':i<l.length:=by simpa using hi
  obtain⟨g1,g2,g3⟩:=hat i hi' (by omega)
  exact⟨_,wE_rd g1 g3 (hs es[i] (List.getElem_mem (by omega)))⟩
theorem sortedW_ok{σ:Store}{tg b:Nat}{es:List (Str×Int)}(hl:lkt σ tg=some (b,.map (wE es) es.length))(hn:(es.map Prod.fst).Nodup)(hs:∀ p∈es,p.1.size≤maxLen)(hz:es.length≤20000):
  Sx.Spec Tryz.prog 184 [.mpt tg b] σ fun r σ'=>r= .ret (strsV (sortL (es.map Prod.fst)))∧σ'=σ:=by
 intro M w0 w cs hI hR
 obtain⟨v,rfl,h1⟩:=RL.un1 hR
 have g1:=h1.of_mpt
 subst g1
 obtain⟨hM,l,hh,hkeys,hvals⟩:=hI.getMap hl
 obtain⟨hlen,hat⟩:=wE_at hkeys hvals
 have hF:=wE_fit hlen hat hn hs hz
 have hown:=World.ownsMap_of_fit (R:=wideElem) hh hF (fun x _ z h=>h)
 have hsz:=hown.size_le
 have hsz2:l.toArray.size≤20000:=by simp;omega
 refine(sortedW_walk hown (by omega)).mono fun e w' ⟨v,ss,he,hp,hrow,hb⟩=> ?_
 have hk:∀ s:Str,s.size≤maxLen→has (DataW.map (List.foldr DataW.insert [] (List.map (WideElems.rg Tryz.prog 9 wideElem) l.toArray.toList))) (ky s)=decide (s∈es.map Prod.fst):=fun s hs'=>by
  rw[Bool.eq_iff_iff,has_eq,List.any_eq_true,decide_eq_true_iff]
  constructor
  ·rintro⟨p,hp,hsame⟩
   rw[mem_sorted]at hp
   obtain⟨x,hx,rfl⟩:=List.mem_map.1 hp
   obtain⟨i,hi,rfl⟩:=List.mem_iff_getElem.1 hx
   have hi':i<l.length:=by simpa using hi
   obtain⟨g1,g2,g3⟩:=hat i hi' (by omega)
   have hrd:=wE_rd g1 g3 (hs es[i] (List.getElem_mem (by omega)))
   have e:=WideAt.sameKey_eq hsame
   unfold WideElems.rg at e
   simp only[List.getElem_toArray,hrd,Option.getD_some]at e
   have e2:=ky_inj e
   rw[← e2]
   exact List.mem_map.2 ⟨_,List.getElem_mem (by omega),rfl⟩
  ·intro h
   obtain⟨p,hp,rfl⟩:=List.mem_map.1 h
   obtain⟨i,hi,rfl⟩:=List.mem_iff_getElem.1 hp
   obtain⟨g1,g2,g3⟩:=hat i (by omega) hi
   have hrd:=wE_rd g1 g3 (hs es[i] hp)
   refine⟨WideElems.rg Tryz.prog 9 wideElem l[i],mem_sorted.2 (List.mem_map.2 ⟨l[i],by simp,rfl⟩),?_⟩
   unfold WideElems.rg
   rw[hrd]
   exact WideAt.sameKey_self (ky_key _)
 obtain⟨S,g1,g2,g3⟩:=sorted_names Tryz.underlying9 hown (L:=es.map Prod.fst) (fun s h=>by obtain⟨p,hp,rfl⟩:=List.mem_map.1 h;exact hs p hp) hk hp hrow
 have hS:S=sortL (es.map Prod.fst):=srt_ext g1 (sortL_srt _) fun x=>by rw[g2,sortL_mem]
 refine⟨memN M w.heap.size w',.ret (strsV (sortL (es.map Prod.fst))),σ,memN_le hI,inv_new hI hb,?_,rfl,rfl⟩
 subst he
 rw[← hS]
 exact names_R g3 (Nat.le_refl _)
end
end Go.Proofs.YtbihckigennlhaaGreatDoor
