/- units.sorted, walked. -/
import Derived.Test.YtbihckigennlhaaGreatDoorYd
import Derived.Sort.OwnSorted
set_option linter.unusedSimpArgs false
set_option linter.unusedVariables false
set_option linter.unusedSectionVars false
set_option maxRecDepth 100000
set_option maxHeartbeats 4000000
namespace Go.Proofs.YtbihckigennlhaaGreatDoor
section
open Go.RowKit Go.Proofs Go.Tb Go.Maps Go.Sort
def na(v:Value):Option (DataW Unit×List MemPlace):=match v with
 | .agg cs=>match cs.toList with
  |[.int .i64 h,.int .u64 l]=>some (.agg [.lit (.int .i64 h),.lit (.int .u64 l)],[])
  |_=>none
 |_=>none
def PV(c:Int×Int):Value:= .agg #[.int .i64 c.1,.int .u64 c.2]
theorem azs{v:Value}{y:DataW Unit×List MemPlace}(h:na v=some y):∃ c,v=PV c:=by
 unfold na at h
 split at h
 ·rename_i cs
  split at h
  ·rename_i hh ll e
   exact⟨(hh,ll),congrArg Value.agg (by apply YP;simpa using e)⟩
  ·cases h
 ·cases h
theorem ax5{w:World}{b n:Nat}{D:DataW Unit}(kC:w.ownsMap Tryz.prog 9 na b n D)(nQ:Maps.size D≤20000):Calls Tryz.prog 184 #[.map (some b)] w fun e w'=>
  ∃ (v:Value) (ss:List (List UInt8)),e= .returned v∧ss.Perm (strKeys D)∧w'.ownsRow w.heap.size 9 1 v ss.length ((ss.mergeSort (fun x y=>decide (x≤y))).map encStr)∧Below w.heap.size w w':=by
 obtain⟨i0,hi,hz0,pn,tc⟩:=info_parts ayi
 have iW:=kC.lt
 go_enter Tryz.func184,Tryz.ntmps184
 go_wp2_with (at_range;refine wpList_range_own _ rfl _ 209 rfl 9 212 (string_keyed Tryz.underlying9) Tryz.underlying209 _ b n _ rfl kC ?_;intro w0 aaB hg0 pj)
 go_frame
 go_loopw [3] (fun v wr=>∃ (left:Lit→Bool) (cZ:Nat) (ss:List (List UInt8)),wr.ranges Tryz.prog 9 na b w.heap.size n D left cZ∧ss.length+cZ≤Maps.size D∧wr.ownsRow w.heap.size 9 1 v ss.length (ss.map encStr)∧Collected D left ss∧Below w.heap.size w wr) (fun _ wr=>wr.rangeLeft b w.heap.size)
 case atStart=>exact⟨_,_,[],aaB,by simp,⟨by simp,.inl ⟨rfl,rfl⟩⟩,Collected.start D,(Below.refl _ _).grown hg0 (ZI _) (fun j hj=>by cases hj)⟩
 obtain⟨left,cZ,ss,yk,ku,qL,hC,nT⟩:=hrel
 go_wp2_with (at_next;refine wpList_next_ranges _ rfl _ rfl 9 (string_keyed Tryz.underlying9) na encStr PV (fun key kl hk=>by obtain⟨x,hx,_⟩:=Maps.keyOf_str Tryz.underlying9 hk;exact⟨x,hx⟩) (fun v y hv=>azs hv) b w.heap.size n _ _ _ rfl yk ?_ ?_)
 ·intro eN kA
  rcases qL.2 with⟨yf,kB⟩|⟨g,cap,cur,rfl,K1,hb,h1,h2,h3,h4⟩
  ·subst yf
   have Bj:ss=[]:=ZO kB
   subst Bj
   have hc:Calls Tryz.prog 209 #[.slice none 0 0] wr _:=Tryz.slices_Sort_string_none none 0 wr
   go_wp2_with (go_at_call 209;refine hc.mono ?_;rintro e w' ⟨rfl,rfl⟩)
   go_ret
   exact⟨_,[],rfl,hC.perm kC (string_keyed Tryz.underlying9) Tryz.underlying9 kA,(by rw[List.mergeSort_nil];exact qL),nT⟩
  ·have hH:Holds encStr wr g 0 ss.toArray:=holds_of_block hb (by simpa using h4)
   have hgl:g<wr.heap.size:=(Zq.1 hb).1
   have hc:Calls Tryz.prog 209 #[.slice (some ⟨g,0,none⟩) ss.length cap] wr _:=Tryz.slices_Sort_string g 0 cap ss wr hH hgl (by omega)
   go_wp2_with (go_at_call 209;refine hc.mono ?_;rintro e w' ⟨rfl,nn,os,rfl⟩)
   go_ret
   exact⟨_,ss,rfl,hC.perm kC (string_keyed Tryz.underlying9) Tryz.underlying9 kA,ownsRow_sorted (by simp) K1 hb h1 h2 h3,nT.grown (grownBy_sorted _) nT.size (fun j hj=>by cases hj;exact K1)⟩
 ·intro x c1 c2 kl yd yp w2 Un aal vn hv gJ LK aH qE ew hen
  obtain⟨x',ex,rfl,_⟩:=Maps.keyOf_str Tryz.underlying9 aal
  obtain rfl:x=x':=encStr_inj ex
  have Bi:=qL.kept qE (Or.inr (row_ne_iter qL yk).symm)
  clear ew
  go_wp2_with (at_builtin;refine wpList_append_own _ rfl _ _ 128 rfl w.heap.size 9 i0 (.string ⟨#[]⟩) 1 16 Tryz.underlying128 hi hz0 pn tc rfl (by decide) _ _ _ rfl (Bi.alloc _) ⟨w2.heap.size,0,none⟩ 1 1 [encStr x] rfl rfl (cell_one_new _ _ _) (by simp[Value.oneCell',encStr]) (by unfold maxLen at *;omega) (by omega) (by have:=nT.size;have:=qE.size;simp;omega) ?_;intro v' w3 aaz Lb azS;go_frame)
  have LL:=(LK.alloc _).kept Lb (row_ne_low Bi iW) (row_ne_iter Bi LK)
  go_roundw
  case rel=>
   refine⟨_,Un,ss++[x],LL,by simp;omega,by simpa using aaz,hC.step vn gJ,?_⟩
   exact((nT.grown qE nT.size (fun j hj=>by cases hj;exact ZI _)).alloc (by have:=nT.size;have:=qE.size;omega) _).grown Lb (by have:=nT.size;have:=qE.size;simp;omega) (fun j hj=>(Bi.lt j hj).1)
  case measure=>rw[LL.left_eq,yk.left_eq];exact aH
end
section
open Go.Sx Go.Proofs Go.Tb Go.RowKit Go.Maps
theorem azt{n:Int}:na (wv n)=some (.agg [.lit (.int .i64 (iG n)),.lit (.int .u64 (fR n))],[]):=rfl
theorem azc{M:Mem}{l:List MapEntry}{es:List (af×Int)}(hk:l.map (fun e=>(e.key,e.born))=(wE es).map (fun e=>(e.1,e.2.1)))(hv:RL M ((wE es).map (·.2.2)) (l.map (·.val))):l.length=es.length∧∀ i (h:i<l.length) (h':i<es.length),l[i].key= .string es[i].1∧l[i].born=i∧l[i].val=wv es[i].2:=by
 rw[Cy]at hk
 rw[Cz]at hv
 refine⟨by have:=congrArg List.length hk;simpa using this,fun i h h'=> ?_⟩
 have h5:=congrArg (fun x=>x[i]?) hk
 simp[h,h']at h5
 have h6:=hv.2 i (by simpa using h') (by simpa using h)
 simp only[Zg]at h6
 exact⟨h5.1,h5.2,BJ h6⟩
theorem G7{e:MapEntry}{s:af}{n:Int}(g1:e.key= .string s)(g3:e.val=wv n)(g4:s.size≤maxLen):WideElems.rd Tryz.prog 9 na e=some (ky s,.agg [.lit (.int .i64 (iG n)),.lit (.int .u64 (fR n))]):=by
 unfold WideElems.rd
 simp only[g1,g3,WideMaps.keyOf_string_mk Tryz.underlying9 g4,Option.bind_some,azt,Zu]
 rfl
theorem azd{l:List MapEntry}{es:List (af×Int)}(hlen:l.length=es.length)(gJ:∀ i (h:i<l.length) (h':i<es.length),l[i].key= .string es[i].1∧l[i].born=i∧l[i].val=wv es[i].2)(hn:(es.map Prod.fst).Nodup)(hs:∀ p∈es,p.1.size≤maxLen)(hl:es.length≤20000):
  WideElems.Fit Tryz.prog 9 na l.toArray es.length:=by
 refine⟨by simp;unfold maxLen;omega,⟨fun x hx=> ?_,?_,?_⟩,fun x hx=> ?_⟩
 ·obtain⟨i,hi,rfl⟩:=Zd.1 hx
  have cH:i<l.length:=by simpa using hi
  simp only[]
  rw[(gJ i cH (by omega)).2.1];omega
 ·have e:l.toArray.toList.map (fun x=>x.born)=List.range es.length:=by
   refine List.ext_getElem (by simp[hlen]) fun i h1 h2=> ?_
   have cH:i<l.length:=by simpa using h1
   simp[(gJ i cH (by omega)).2.1]
  rw[e];exact List.nodup_range
 ·have e:l.toArray.toList.map (fun x=>x.key)=(es.map Prod.fst).map Value.string:=by
   refine List.ext_getElem (by simp[hlen]) fun i h1 h2=> ?_
   have cH:i<l.length:=by simpa using h1
   simp[(gJ i cH (by omega)).1]
  rw[e]
  exact List.pairwise_map.2 (hn.imp fun h e=>h (by injection e))
 ·obtain⟨i,hi,rfl⟩:=Zd.1 hx
  have cH:i<l.length:=by simpa using hi
  obtain⟨g1,g2,g3⟩:=gJ i cH (by omega)
  exact⟨_,G7 g1 g3 (hs es[i] (Y0 (by omega)))⟩
theorem ax4{σ:Store}{tg b:Nat}{es:List (af×Int)}(hl:aN σ tg=some (b,.map (wE es) es.length))(hn:(es.map Prod.fst).Nodup)(hs:∀ p∈es,p.1.size≤maxLen)(hz:es.length≤20000):
  Sx.Spec Tryz.prog 184 [.eA tg b] σ fun r σ'=>r= .ret (Gx (jm (es.map Prod.fst)))∧σ'=σ:=by
 intro M w0 w cs hI hR
 obtain⟨v,rfl,h1⟩:=RL.dV hR
 have g1:=h1.yJ
 subst g1
 obtain⟨hM,l,hh,jC,kH⟩:=hI.xL hl
 obtain⟨hlen,gJ⟩:=azc jC kH
 have hF:=azd hlen gJ hn hs hz
 have kC:=World.ownsMap_of_fit (R:=na) hh hF (fun x _ z h=>h)
 have hsz:=kC.size_le
 have yr:l.toArray.size≤20000:=by simp;omega
 refine(ax5 kC (by omega)).mono fun e w' ⟨v,ss,he,hp,qL,hb⟩=> ?_
 have hk:∀ s:af,s.size≤maxLen→has (DataW.map (List.foldr DataW.insert [] (List.map (WideElems.rg Tryz.prog 9 na) l.toArray.toList))) (ky s)=decide (s∈es.map Prod.fst):=fun s ym=>by
  rw[YD,has_eq,Yg,decide_eq_true_iff]
  constructor
  ·rintro⟨p,hp,aaD⟩
   rw[mem_sorted]at hp
   obtain⟨x,hx,rfl⟩:=YS.1 hp
   obtain⟨i,hi,rfl⟩:=Zd.1 hx
   have cH:i<l.length:=by simpa using hi
   obtain⟨g1,g2,g3⟩:=gJ i cH (by omega)
   have mH:=G7 g1 g3 (hs es[i] (Y0 (by omega)))
   have e:=WideAt.sameKey_eq aaD
   unfold WideElems.rg at e
   simp only[List.getElem_toArray,mH,ZE]at e
   have e2:=Mz e
   rw[← e2]
   exact YS.2 ⟨_,Y0 (by omega),rfl⟩
  ·intro h
   obtain⟨p,hp,rfl⟩:=YS.1 h
   obtain⟨i,hi,rfl⟩:=Zd.1 hp
   obtain⟨g1,g2,g3⟩:=gJ i (by omega) hi
   have mH:=G7 g1 g3 (hs es[i] hp)
   refine⟨WideElems.rg Tryz.prog 9 na l[i],mem_sorted.2 (YS.2 ⟨l[i],by simp,rfl⟩),?_⟩
   unfold WideElems.rg
   rw[mH]
   exact WideAt.sameKey_self (Fx _)
 obtain⟨S,g1,g2,g3⟩:=ax6 Tryz.underlying9 kC (L:=es.map Prod.fst) (fun s h=>by obtain⟨p,hp,rfl⟩:=YS.1 h;exact hs p hp) hk hp qL
 have hS:S=jm (es.map Prod.fst):=Ca g1 (wy _) fun x=>by rw[g2,wx]
 refine⟨mO M w.heap.size w',.ret (Gx (jm (es.map Prod.fst))),σ,MX hI,aa3 hI hb,?_,rfl,rfl⟩
 subst he
 rw[← hS]
 exact acT g3 (ZI _)
end
end Go.Proofs.YtbihckigennlhaaGreatDoor
