/- The sorted keys of a map, in the walk's words. -/
import Derived.Test.YtajimcniogfpcaaGreatDoorCd
import Derived.Test.YtajimcniogfpcaaGreatDoorNm
set_option linter.unusedVariables false
set_option linter.unusedSimpArgs false
namespace Go.Proofs.YtajimcniogfpcaaGreatDoor
open _root_.Go.Proofs.Tryz
open Go.RowKit Go.Proofs Go.Tb Go.Maps
theorem Lx{P:Program}{k:TypeId}{R:Value→Option (DataW Unit×List MemPlace)}{w:World}{b n:Nat}{D:DataW Unit}(h:w.ownsMap P k R b n D)(hk:P.underlying k=some .string)(x:List UInt8):x∈strKeys D↔has D (.string x)=true:=by
 obtain⟨es,rfl,zM⟩:=h.keysOf
 rw[has_eq,Ym]
 show x∈es.map (fun p=>strOf p.1)↔_
 rw[Y9]
 constructor
 ·rintro⟨p,hp,rfl⟩
  obtain⟨v,hv⟩:=zM p hp
  obtain⟨y,_,hy,_⟩:=Maps.keyOf_str hk hv
  refine⟨p,hp,?_⟩
  rw[hy];exact WideAt.sameKey_self (show WideAt.IsKeyLit (.string y)from trivial)
 ·rintro⟨p,hp,hs⟩
  have:=WideAt.sameKey_eq hs
  exact⟨p,hp,by rw[this];rfl⟩
theorem U6{P:Program}{k:TypeId}{R:Value→Option (DataW Unit×List MemPlace)}{w:World}{b n:Nat}{D:DataW Unit}(h:w.ownsMap P k R b n D)(hk:P.underlying k=some .string):(strKeys D).Nodup:=by
 obtain⟨es,hD,hp⟩:=h.tidy (string_keyed hk)
 obtain⟨Ed,Qe,zM⟩:=h.keysOf
 rw[hD]at Qe
 cases Qe
 subst hD
 show(es.map fun p=>strOf p.1).Nodup
 refine W7.2 (hp.imp_of_mem fun {p q} mT jY aH e=>aH ?_)
 obtain⟨v,hv⟩:=zM p mT
 obtain⟨u,hu⟩:=zM q jY
 obtain⟨x,_,hx,_⟩:=Maps.keyOf_str hk hv
 obtain⟨y,_,hy,_⟩:=Maps.keyOf_str hk hu
 rw[hx,hy]at e ⊢
 exact Ze _ e
theorem Ms{P:Program}{k:TypeId}{R:Value→Option (DataW Unit×List MemPlace)}{w w':World}{b:Nat}{L:List ae}{base:Nat}{e:TypeId}{v:Value}{D:DataW Unit}{ss:List (List UInt8)}{n:Nat}(hk:P.underlying k=some .string)
  (dY:w.ownsMap P k R b n D) (hsm:∀ s∈L,s.size≤maxLen) (QD:∀ s:ae,s.size≤maxLen→has D (ky s)=decide (s∈L)) (hp:ss.Perm (strKeys D)) (nT:w'.ownsRow base e 1 v ss.length ((ss.mergeSort (fun x y=>decide (x≤y))).map encStr)):
  ∃ S:List ae,bl S∧(∀ s,s∈S↔s∈L)∧names w' e base v S:=by
 have tr:∀ a b c:List UInt8,leB a b=true→leB b c=true→leB a c=true:=fun a b c h1 h2=>by simp only[leB,ZN]at *;exact List.le_trans h1 h2
 have to:∀ a b:List UInt8,(leB a b || leB b a)=true:=fun a b=>by simp only[leB,YM,ZN];exact List.le_total a b
 have ae4:=List.pairwise_mergeSort tr to ss
 have KA:=List.mergeSort_perm ss leB
 have hnd:(ss.mergeSort leB).Nodup:=(KA.trans hp).nodup_iff.2 (U6 dY hk)
 refine⟨(ss.mergeSort leB).map fun l=>⟨l.toArray⟩,?_,fun s=> ?_,?_⟩
 ·refine W7.2 ((ae4.and hnd).imp fun {a b} h=> ?_)
  rw[Gg]
  have h1:a≤b:=by simpa[leB]using h.1
  show a.toArray.toList<b.toArray.toList
  simp only[List.toList_toArray]
  rcases Decidable.em (a<b)with h2|h2
  ·exact h2
  ·exact absurd (List.le_antisymm h1 (List.not_lt.1 h2)) h.2
 ·rw[Y9]
  constructor
  ·rintro⟨x,hx,rfl⟩
   have eV:=(KA.trans hp).mem_iff.1 hx
   have hle:=strKeys_le dY hk x eV
   have h3:=(Lx dY hk x).1 eV
   have h4:=QD ⟨x.toArray⟩ (by show x.toArray.size≤_;simpa using hle)
   have h5:has D (ky ⟨x.toArray⟩)=true:=by simpa[ky]using h3
   rw[h5]at h4
   simpa using h4.symm
  ·intro hs
   refine⟨s.data.toList,(KA.trans hp).mem_iff.2 ((Lx dY hk _).2 ?_),by simp⟩
   have:=QD s (hsm s hs)
   rw[YR hs]at this
   exact this
 ·refine names.Ts ?_
  rw[Z4,List.length_mergeSort,Yi]
  have e1:(Value.string ∘ fun l:List UInt8=>(⟨l.toArray⟩:ae))=encStr:=by funext l;simp[encStr]
  rw[e1];exact nT
abbrev Su(w:World):Value:= .func (.func 168) #[] #[.pointer (some ⟨w.heap.size,0,none⟩)]
abbrev Sv(w:World):Value:= .func (.func 78) #[] #[.pointer (some ⟨w.heap.size,0,none⟩)]
theorem ag4(b:Nat)(w:World):Calls prog 122 #[.map (some b)] w fun e w'=>e= .returned (Su w)∧w'=w.alloc (.cells #[.map (some b)] 96):=callsIn_wide.1 (Tryz.maps_Keys_122 (some b) w)
theorem Sw(b:Nat)(w:World):Calls prog 35 #[.map (some b)] w fun e w'=>e= .returned (Sv w)∧w'=w.alloc (.cells #[.map (some b)] 90):=callsIn_wide.1 (Tryz.maps_Keys_35 (some b) w)
theorem akp{w:World}{b:Nat}{L:List ae}(h:cy w b L)(hn:L.length≤4398046511104):Calls prog 34 #[Su w] (w.alloc (.cells #[.map (some b)] 96)) fun e w'=>
  ∃ v S,e= .returned v∧bl S∧(∀ s,s∈S↔s∈L)∧names w' 9 (w.heap.size+1) v S∧Below (w.heap.size+1) (w.alloc (.cells #[.map (some b)] 96)) w':=by
 obtain⟨h1,h2,D,h3,h4,h5⟩:=h
 have hz:=h3.size_le
 refine(callsIn_wide.1 (Tryz.slices_Sorted_keys_34_122 b L.length D _ w h3 (by unfold maxLen;omega) (by omega))).mono fun e w' ⟨v,ss,he,hp,nT,_,hb⟩=> ?_
 obtain⟨S,g1,g2,g3⟩:=Ms underlying9 h3 h2 h4 hp nT
 have e1:(w.alloc (.cells #[.map (some b)] 96)).heap.size=w.heap.size+1:=by simp
 rw[e1]at g3 hb
 exact⟨v,S,he,g1,g2,g3,hb⟩
theorem UZ{w:World}{b:Nat}{L:List ae}{f:ae→Nat}(h:maps w prog 9 b L f)(hn:L.length≤4398046511104):Calls prog 34 #[Sv w] (w.alloc (.cells #[.map (some b)] 90)) fun e w'=>
  ∃ v S,e= .returned v∧bl S∧(∀ s,s∈S↔s∈L)∧names w' 9 (w.heap.size+1) v S∧Below (w.heap.size+1) (w.alloc (.cells #[.map (some b)] 90)) w':=by
 obtain⟨h1,h2,D,h3,h4,h5⟩:=h
 have hz:=h3.size_le
 refine(callsIn_wide.1 (Tryz.slices_Sorted_keys_34_35 b L.length D _ w h3 (by unfold maxLen;omega) (by omega))).mono fun e w' ⟨v,ss,he,hp,nT,_,hb⟩=> ?_
 obtain⟨S,g1,g2,g3⟩:=Ms underlying9 h3 h2 h4 hp nT
 have e1:(w.alloc (.cells #[.map (some b)] 90)).heap.size=w.heap.size+1:=by simp
 rw[e1]at g3 hb
 exact⟨v,S,he,g1,g2,g3,hb⟩
end Go.Proofs.YtajimcniogfpcaaGreatDoor
