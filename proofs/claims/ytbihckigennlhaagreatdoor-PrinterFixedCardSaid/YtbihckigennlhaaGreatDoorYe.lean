/- units.sorted, walked. -/
import Derived.Test.YtbihckigennlhaaGreatDoorYd
import Derived.Sort.OwnSorted
set_option linter.unusedSimpArgs false
set_option linter.unusedVariables false
set_option linter.unusedSectionVars false
set_option maxRecDepth 100000
set_option maxHeartbeats 4000000
namespace Go.Proofs.YtbihckigennlhaaGreatDoor
section
open Go.RowKit Go.Proofs Go.Tb Go.Maps Go.Sort
def mj(v:Value):Option (DataW Unit×List MemPlace):=match v with
 | .agg cs=>match cs.toList with
  |[.int .i64 h,.int .u64 l]=>some (.agg [.lit (.int .i64 h),.lit (.int .u64 l)],[])
  |_=>none
 |_=>none
def Nx(c:Int×Int):Value:= .agg #[.int .i64 c.1,.int .u64 c.2]
theorem atw{v:Value}{y:DataW Unit×List MemPlace}(h:mj v=some y):∃ c,v=Nx c:=by
 unfold mj at h
 split at h
 ·rename_i cs
  split at h
  ·rename_i hh ll e
   exact⟨(hh,ll),congrArg Value.agg (by apply YX;simpa using e)⟩
  ·cases h
 ·cases h
theorem asc{w:World}{b n:Nat}{D:DataW Unit}(jO:w.ownsMap Tryz.prog 9 mj b n D)(mT:Maps.size D≤20000):Calls Tryz.prog 184 #[.map (some b)] w fun e w'=>
  ∃ (v:Value) (ss:List (List UInt8)),e= .returned v∧ss.Perm (strKeys D)∧w'.ownsRow w.heap.size 9 1 v ss.length ((ss.mergeSort (fun x y=>decide (x≤y))).map encStr)∧Below w.heap.size w w':=by
 obtain⟨i0,hi,nh,ov,rQ⟩:=info_parts asq
 have il:=jO.lt
 go_enter Tryz.func184,Tryz.ntmps184
 go_wp2_with (at_range;refine wpList_range_own _ rfl _ 209 rfl 9 212 (string_keyed Tryz.underlying9) Tryz.underlying209 _ b n _ rfl jO ?_;intro w0 VQ U6 oq)
 go_frame
 go_loopw [3] (fun v wr=>∃ (left:Lit→Bool) (db:Nat) (ss:List (List UInt8)),wr.ranges Tryz.prog 9 mj b w.heap.size n D left db∧ss.length+db≤Maps.size D∧wr.ownsRow w.heap.size 9 1 v ss.length (ss.map encStr)∧Collected D left ss∧Below w.heap.size w wr) (fun _ wr=>wr.rangeLeft b w.heap.size)
 case atStart=>exact⟨_,_,[],VQ,by simp,⟨by simp,.inl ⟨rfl,rfl⟩⟩,Collected.start D,(Below.refl _ _).grown U6 (ZK _) (fun j hj=>by cases hj)⟩
 obtain⟨left,db,ss,w9,jL,pK,hC,mV⟩:=hrel
 go_wp2_with (at_next;refine wpList_next_ranges _ rfl _ rfl 9 (string_keyed Tryz.underlying9) mj encStr Nx (fun key kl hk=>by obtain⟨x,hx,_⟩:=Maps.keyOf_str Tryz.underlying9 hk;exact⟨x,hx⟩) (fun v y hv=>atw hv) b w.heap.size n _ _ _ rfl w9 ?_ ?_)
 ·intro ep jN
  rcases pK.2 with⟨w5,kA⟩|⟨g,cap,cur,rfl,Jk,hb,h1,h2,h3,h4⟩
  ·subst w5
   have zO:ss=[]:=ZO kA
   subst zO
   have hc:Calls Tryz.prog 209 #[.slice none 0 0] wr _:=Tryz.slices_Sort_string_none none 0 wr
   go_wp2_with (go_at_call 209;refine hc.mono ?_;rintro e w' ⟨rfl,rfl⟩)
   go_ret
   exact⟨_,[],rfl,hC.perm jO (string_keyed Tryz.underlying9) Tryz.underlying9 jN,(by rw[List.mergeSort_nil];exact pK),mV⟩
  ·have hH:Holds encStr wr g 0 ss.toArray:=holds_of_block hb (by simpa using h4)
   have U8:g<wr.heap.size:=(Zz.1 hb).1
   have hc:Calls Tryz.prog 209 #[.slice (some ⟨g,0,none⟩) ss.length cap] wr _:=Tryz.slices_Sort_string g 0 cap ss wr hH U8 (by omega)
   go_wp2_with (go_at_call 209;refine hc.mono ?_;rintro e w' ⟨rfl,nn,os,rfl⟩)
   go_ret
   exact⟨_,ss,rfl,hC.perm jO (string_keyed Tryz.underlying9) Tryz.underlying9 jN,ownsRow_sorted (by simp) Jk hb h1 h2 h3,mV.grown (grownBy_sorted _) mV.size (fun j hj=>by cases hj;exact Jk)⟩
 ·intro x c1 c2 kl yd yp w2 Rv Vi ui hv gm J0 aE pD dz hen
  obtain⟨x',ex,rfl,_⟩:=Maps.keyOf_str Tryz.underlying9 Vi
  obtain rfl:x=x':=encStr_inj ex
  have zN:=pK.kept pD (Or.inr (row_ne_iter pK w9).symm)
  clear dz
  go_wp2_with (at_builtin;refine wpList_append_own _ rfl _ _ 128 rfl w.heap.size 9 i0 (.string ⟨#[]⟩) 1 16 Tryz.underlying128 hi nh ov rQ rfl (by decide) _ _ _ rfl (zN.alloc _) ⟨w2.heap.size,0,none⟩ 1 1 [encStr x] rfl rfl (cell_one_new _ _ _) (by simp[Value.oneCell',encStr]) (by unfold maxLen at *;omega) (by omega) (by have:=mV.size;have:=pD.size;simp;omega) ?_;intro v' w3 VH Jv atQ;go_frame)
  have J1:=(J0.alloc _).kept Jv (row_ne_low zN il) (row_ne_iter zN J0)
  go_roundw
  case rel=>
   refine⟨_,Rv,ss++[x],J1,by simp;omega,by simpa using VH,hC.step ui gm,?_⟩
   exact((mV.grown pD mV.size (fun j hj=>by cases hj;exact ZK _)).alloc (by have:=mV.size;have:=pD.size;omega) _).grown Jv (by have:=mV.size;have:=pD.size;simp;omega) (fun j hj=>(zN.lt j hj).1)
  case measure=>rw[J1.left_eq,w9.left_eq];exact aE
end
section
open Go.Sx Go.Proofs Go.Tb Go.RowKit Go.Maps
theorem atx{n:Int}:mj (wv n)=some (.agg [.lit (.int .i64 (gT n)),.lit (.int .u64 (fw n))],[]):=rfl
theorem atg{M:Mem}{l:List MapEntry}{es:List (ag×Int)}(hk:l.map (fun e=>(e.key,e.born))=(wE es).map (fun e=>(e.1,e.2.1)))(hv:RL M ((wE es).map (·.2.2)) (l.map (·.val))):l.length=es.length∧∀ i (h:i<l.length) (h':i<es.length),l[i].key= .string es[i].1∧l[i].born=i∧l[i].val=wv es[i].2:=by
 rw[Bb]at hk
 rw[Bc]at hv
 refine⟨by have:=congrArg List.length hk;simpa using this,fun i h h'=> ?_⟩
 have h5:=congrArg (fun x=>x[i]?) hk
 simp[h,h']at h5
 have h6:=hv.2 i (by simpa using h') (by simpa using h)
 simp only[Zm]at h6
 exact⟨h5.1,h5.2,Ah h6⟩
theorem Fb{e:MapEntry}{s:ag}{n:Int}(g1:e.key= .string s)(g3:e.val=wv n)(g4:s.size≤maxLen):WideElems.rd Tryz.prog 9 mj e=some (ky s,.agg [.lit (.int .i64 (gT n)),.lit (.int .u64 (fw n))]):=by
 unfold WideElems.rd
 simp only[g1,g3,WideMaps.keyOf_string_mk Tryz.underlying9 g4,Option.bind_some,atx,Zy]
 rfl
theorem ath{l:List MapEntry}{es:List (ag×Int)}(hlen:l.length=es.length)(gm:∀ i (h:i<l.length) (h':i<es.length),l[i].key= .string es[i].1∧l[i].born=i∧l[i].val=wv es[i].2)(hn:(es.map Prod.fst).Nodup)(hs:∀ p∈es,p.1.size≤maxLen)(hl:es.length≤20000):
  WideElems.Fit Tryz.prog 9 mj l.toArray es.length:=by
 refine⟨by simp;unfold maxLen;omega,⟨fun x hx=> ?_,?_,?_⟩,fun x hx=> ?_⟩
 ·obtain⟨i,hi,rfl⟩:=Zf.1 hx
  have cz:i<l.length:=by simpa using hi
  simp only[]
  rw[(gm i cz (by omega)).2.1];omega
 ·have e:l.toArray.toList.map (fun x=>x.born)=List.range es.length:=by
   refine List.ext_getElem (by simp[hlen]) fun i h1 h2=> ?_
   have cz:i<l.length:=by simpa using h1
   simp[(gm i cz (by omega)).2.1]
  rw[e];exact List.nodup_range
 ·have e:l.toArray.toList.map (fun x=>x.key)=(es.map Prod.fst).map Value.string:=by
   refine List.ext_getElem (by simp[hlen]) fun i h1 h2=> ?_
   have cz:i<l.length:=by simpa using h1
   simp[(gm i cz (by omega)).1]
  rw[e]
  exact List.pairwise_map.2 (hn.imp fun h e=>h (by injection e))
 ·obtain⟨i,hi,rfl⟩:=Zf.1 hx
  have cz:i<l.length:=by simpa using hi
  obtain⟨g1,g2,g3⟩:=gm i cz (by omega)
  exact⟨_,Fb g1 g3 (hs es[i] (Za (by omega)))⟩
theorem asb{σ:Store}{tg b:Nat}{es:List (ag×Int)}(hl:aK σ tg=some (b,.map (wE es) es.length))(hn:(es.map Prod.fst).Nodup)(hs:∀ p∈es,p.1.size≤maxLen)(hz:es.length≤20000):
  Sx.Spec Tryz.prog 184 [.dY tg b] σ fun r σ'=>r= .ret (EK (iH (es.map Prod.fst)))∧σ'=σ:=by
 intro M w0 w cs hI hR
 obtain⟨v,rfl,h1⟩:=RL.dN hR
 have g1:=h1.xC
 subst g1
 obtain⟨hM,l,hh,iS,jQ⟩:=hI.wu hl
 obtain⟨hlen,gm⟩:=atg iS jQ
 have hF:=ath hlen gm hn hs hz
 have jO:=World.ownsMap_of_fit (R:=mj) hh hF (fun x _ z h=>h)
 have aT:=jO.size_le
 have xi:l.toArray.size≤20000:=by simp;omega
 refine(asc jO (by omega)).mono fun e w' ⟨v,ss,he,hp,pK,hb⟩=> ?_
 have hk:∀ s:ag,s.size≤maxLen→has (DataW.map (List.foldr DataW.insert [] (List.map (WideElems.rg Tryz.prog 9 mj) l.toArray.toList))) (ky s)=decide (s∈es.map Prod.fst):=fun s xe=>by
  rw[YH,has_eq,Yn,decide_eq_true_iff]
  constructor
  ·rintro⟨p,hp,VU⟩
   rw[mem_sorted]at hp
   obtain⟨x,hx,rfl⟩:=YZ.1 hp
   obtain⟨i,hi,rfl⟩:=Zf.1 hx
   have cz:i<l.length:=by simpa using hi
   obtain⟨g1,g2,g3⟩:=gm i cz (by omega)
   have lL:=Fb g1 g3 (hs es[i] (Za (by omega)))
   have e:=WideAt.sameKey_eq VU
   unfold WideElems.rg at e
   simp only[List.getElem_toArray,lL,ZI]at e
   have e2:=Kx e
   rw[← e2]
   exact YZ.2 ⟨_,Za (by omega),rfl⟩
  ·intro h
   obtain⟨p,hp,rfl⟩:=YZ.1 h
   obtain⟨i,hi,rfl⟩:=Zf.1 hp
   obtain⟨g1,g2,g3⟩:=gm i (by omega) hi
   have lL:=Fb g1 g3 (hs es[i] hp)
   refine⟨WideElems.rg Tryz.prog 9 mj l[i],mem_sorted.2 (YZ.2 ⟨l[i],by simp,rfl⟩),?_⟩
   unfold WideElems.rg
   rw[lL]
   exact WideAt.sameKey_self (DT _)
 obtain⟨S,g1,g2,g3⟩:=asd Tryz.underlying9 jO (L:=es.map Prod.fst) (fun s h=>by obtain⟨p,hp,rfl⟩:=YZ.1 h;exact hs p hp) hk hp pK
 have hS:S=iH (es.map Prod.fst):=AK g1 (ve _) fun x=>by rw[g2,vd]
 refine⟨lU M w.heap.size w',.ret (EK (iH (es.map Prod.fst))),σ,KO hI,WN hI hb,?_,rfl,rfl⟩
 subst he
 rw[← hS]
 exact aaN g3 (ZK _)
end
end Go.Proofs.YtbihckigennlhaaGreatDoor
