/- The sorted keys of a map, in the walk's words. -/
import Derived.Test.YthdeaajdmdmfnaaGreatDoorCd
import Derived.Test.YthdeaajdmdmfnaaGreatDoorNm
set_option linter.unusedVariables false
set_option linter.unusedSimpArgs false
namespace Go.Proofs.YthdeaajdmdmfnaaGreatDoor
open _root_.Go.Proofs.Tryz
open Go.RowKit Go.Proofs Go.Tb Go.Maps
theorem JH{P:Program}{k:TypeId}{R:Value→Option (DataW Unit×List MemPlace)}{w:World}{b n:Nat}{D:DataW Unit}(h:w.ownsMap P k R b n D)(hk:P.underlying k=some .string)(x:List UInt8):x∈strKeys D↔has D (.string x)=true:=by
 obtain⟨es,rfl,xB⟩:=h.keysOf
 rw[has_eq,Yp]
 show x∈es.map (fun p=>strOf p.1)↔_
 rw[Zi]
 constructor
 ·rintro⟨p,hp,rfl⟩
  obtain⟨v,hv⟩:=xB p hp
  obtain⟨y,_,hy,_⟩:=Maps.keyOf_str hk hv
  refine⟨p,hp,?_⟩
  rw[hy];exact WideAt.sameKey_self (show WideAt.IsKeyLit (.string y)from trivial)
 ·rintro⟨p,hp,hs⟩
  have:=WideAt.sameKey_eq hs
  exact⟨p,hp,by rw[this];rfl⟩
theorem Sm{P:Program}{k:TypeId}{R:Value→Option (DataW Unit×List MemPlace)}{w:World}{b n:Nat}{D:DataW Unit}(h:w.ownsMap P k R b n D)(hk:P.underlying k=some .string):(strKeys D).Nodup:=by
 obtain⟨es,hD,hp⟩:=h.tidy (string_keyed hk)
 obtain⟨Cr,NW,xB⟩:=h.keysOf
 rw[hD]at NW
 cases NW
 subst hD
 show(es.map fun p=>strOf p.1).Nodup
 refine List.pairwise_map.2 (hp.imp_of_mem fun {p q} lV oh aE e=>aE ?_)
 obtain⟨v,hv⟩:=xB p lV
 obtain⟨u,hu⟩:=xB q oh
 obtain⟨x,_,hx,_⟩:=Maps.keyOf_str hk hv
 obtain⟨y,_,hy,_⟩:=Maps.keyOf_str hk hu
 rw[hx,hy]at e ⊢
 exact Zd _ e
theorem Kr{P:Program}{k:TypeId}{R:Value→Option (DataW Unit×List MemPlace)}{w w':World}{b:Nat}{L:List af}{base:Nat}{e:TypeId}{v:Value}{D:DataW Unit}{ss:List (List UInt8)}{n:Nat}(hk:P.underlying k=some .string)
  (dt:w.ownsMap P k R b n D) (hsm:∀ s∈L,s.size≤maxLen) (Ov:∀ s:af,s.size≤maxLen→has D (ky s)=decide (s∈L)) (hp:ss.Perm (strKeys D)) (iu:w'.ownsRow base e 1 v ss.length ((ss.mergeSort (fun x y=>decide (x≤y))).map encStr)):
  ∃ S:List af,cC S∧(∀ s,s∈S↔s∈L)∧names w' e base v S:=by
 have tr:∀ a b c:List UInt8,leB a b=true→leB b c=true→leB a c=true:=fun a b c h1 h2=>by simp only[leB,ZR]at *;exact List.le_trans h1 h2
 have to:∀ a b:List UInt8,(leB a b || leB b a)=true:=fun a b=>by simp only[leB,YO,ZR];exact List.le_total a b
 have acA:=List.pairwise_mergeSort tr to ss
 have II:=List.mergeSort_perm ss leB
 have hnd:(ss.mergeSort leB).Nodup:=(II.trans hp).nodup_iff.2 (Sm dt hk)
 refine⟨(ss.mergeSort leB).map fun l=>⟨l.toArray⟩,?_,fun s=> ?_,?_⟩
 ·refine List.pairwise_map.2 ((acA.and hnd).imp fun {a b} h=> ?_)
  rw[Es]
  have h1:a≤b:=by simpa[leB]using h.1
  show a.toArray.toList<b.toArray.toList
  simp only[List.toList_toArray]
  rcases Decidable.em (a<b)with h2|h2
  ·exact h2
  ·exact absurd (List.le_antisymm h1 (List.not_lt.1 h2)) h.2
 ·rw[Zi]
  constructor
  ·rintro⟨x,hx,rfl⟩
   have ef:=(II.trans hp).mem_iff.1 hx
   have hle:=strKeys_le dt hk x ef
   have h3:=(JH dt hk x).1 ef
   have h4:=Ov ⟨x.toArray⟩ (by show x.toArray.size≤_;simpa using hle)
   have h5:has D (ky ⟨x.toArray⟩)=true:=by simpa[ky]using h3
   rw[h5]at h4
   simpa using h4.symm
  ·intro hs
   refine⟨s.data.toList,(II.trans hp).mem_iff.2 ((JH dt hk _).2 ?_),by simp⟩
   have:=Ov s (hsm s hs)
   rw[YJ hs]at this
   exact this
 ·refine names.QW ?_
  rw[ZW,List.length_mergeSort,Yg]
  have e1:(Value.string ∘ fun l:List UInt8=>(⟨l.toArray⟩:af))=encStr:=by funext l;simp[encStr]
  rw[e1];exact iu
abbrev P7(w:World):Value:= .func (.func 229) #[] #[.pointer (some ⟨w.heap.size,0,none⟩)]
abbrev P8(w:World):Value:= .func (.func 185) #[] #[.pointer (some ⟨w.heap.size,0,none⟩)]
theorem aep(b:Nat)(w:World):Calls prog 186 #[.map (some b)] w fun e w'=>e= .returned (P7 w)∧w'=w.alloc (.cells #[.map (some b)] 200):=callsIn_wide.1 (Tryz.maps_Keys_186 (some b) w)
theorem aeq(b:Nat)(w:World):Calls prog 131 #[.map (some b)] w fun e w'=>e= .returned (P8 w)∧w'=w.alloc (.cells #[.map (some b)] 194):=callsIn_wide.1 (Tryz.maps_Keys_131 (some b) w)
theorem aim{w:World}{b:Nat}{L:List af}(h:cB w b L)(hn:L.length≤4398046511104):Calls prog 130 #[P7 w] (w.alloc (.cells #[.map (some b)] 200)) fun e w'=>
  ∃ v S,e= .returned v∧cC S∧(∀ s,s∈S↔s∈L)∧names w' 9 (w.heap.size+1) v S∧Below (w.heap.size+1) (w.alloc (.cells #[.map (some b)] 200)) w':=by
 obtain⟨h1,h2,D,h3,h4,h5⟩:=h
 have hz:=h3.size_le
 refine(callsIn_wide.1 (Tryz.slices_Sorted_keys_130_186 b L.length D _ w h3 (by unfold maxLen;omega) (by omega))).mono fun e w' ⟨v,ss,he,hp,iu,_,hb⟩=> ?_
 obtain⟨S,g1,g2,g3⟩:=Kr underlying9 h3 h2 h4 hp iu
 have e1:(w.alloc (.cells #[.map (some b)] 200)).heap.size=w.heap.size+1:=by simp
 rw[e1]at g3 hb
 exact⟨v,S,he,g1,g2,g3,hb⟩
theorem ain{w:World}{b:Nat}{L:List af}{f:af→Nat}(h:maps w prog 9 b L f)(hn:L.length≤4398046511104):Calls prog 130 #[P8 w] (w.alloc (.cells #[.map (some b)] 194)) fun e w'=>
  ∃ v S,e= .returned v∧cC S∧(∀ s,s∈S↔s∈L)∧names w' 9 (w.heap.size+1) v S∧Below (w.heap.size+1) (w.alloc (.cells #[.map (some b)] 194)) w':=by
 obtain⟨h1,h2,D,h3,h4,h5⟩:=h
 have hz:=h3.size_le
 refine(callsIn_wide.1 (Tryz.slices_Sorted_keys_130_131 b L.length D _ w h3 (by unfold maxLen;omega) (by omega))).mono fun e w' ⟨v,ss,he,hp,iu,_,hb⟩=> ?_
 obtain⟨S,g1,g2,g3⟩:=Kr underlying9 h3 h2 h4 hp iu
 have e1:(w.alloc (.cells #[.map (some b)] 194)).heap.size=w.heap.size+1:=by simp
 rw[e1]at g3 hb
 exact⟨v,S,he,g1,g2,g3,hb⟩
end Go.Proofs.YthdeaajdmdmfnaaGreatDoor
