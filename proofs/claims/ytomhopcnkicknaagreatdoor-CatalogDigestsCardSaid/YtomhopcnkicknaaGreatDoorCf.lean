/- The sorted keys of a map, in the walk's words. -/
import Derived.Test.YtomhopcnkicknaaGreatDoorCd
import Derived.Test.YtomhopcnkicknaaGreatDoorNm
set_option linter.unusedVariables false
set_option linter.unusedSimpArgs false
namespace Go.Proofs.YtomhopcnkicknaaGreatDoor
open _root_.Go.Proofs.Tryz
open Go.RowKit Go.Proofs Go.Tb Go.Maps
theorem HJ{P:Program}{k:TypeId}{R:Value→Option (DataW Unit×List MemPlace)}{w:World}{b n:Nat}{D:DataW Unit}(h:w.ownsMap P k R b n D)(hk:P.underlying k=some .string)(x:List UInt8):x∈strKeys D↔has D (.string x)=true:=by
 obtain⟨es,rfl,vP⟩:=h.keysOf
 rw[has_eq,YC]
 show x∈es.map (fun p=>strOf p.1)↔_
 rw[Y9]
 constructor
 ·rintro⟨p,hp,rfl⟩
  obtain⟨v,hv⟩:=vP p hp
  obtain⟨y,_,hy,_⟩:=Maps.keyOf_str hk hv
  refine⟨p,hp,?_⟩
  rw[hy];exact WideAt.sameKey_self (show WideAt.IsKeyLit (.string y)from trivial)
 ·rintro⟨p,hp,hs⟩
  have:=WideAt.sameKey_eq hs
  exact⟨p,hp,by rw[this];rfl⟩
theorem QK{P:Program}{k:TypeId}{R:Value→Option (DataW Unit×List MemPlace)}{w:World}{b n:Nat}{D:DataW Unit}(h:w.ownsMap P k R b n D)(hk:P.underlying k=some .string):(strKeys D).Nodup:=by
 obtain⟨es,hD,hp⟩:=h.tidy (string_keyed hk)
 obtain⟨es',BN,vP⟩:=h.keysOf
 rw[hD]at BN
 cases BN
 subst hD
 show(es.map fun p=>strOf p.1).Nodup
 refine XC.2 (hp.imp_of_mem fun {p q} nw nz bB e=>bB ?_)
 obtain⟨v,hv⟩:=vP p nw
 obtain⟨u,hu⟩:=vP q nz
 obtain⟨x,_,hx,_⟩:=Maps.keyOf_str hk hv
 obtain⟨y,_,hy,_⟩:=Maps.keyOf_str hk hu
 rw[hx,hy]at e ⊢
 exact Zy _ e
theorem aND{P:Program}{k:TypeId}{R:Value→Option (DataW Unit×List MemPlace)}{w w':World}{b:Nat}{L:List ae}{base:Nat}{e:TypeId}{v:Value}{D:DataW Unit}{ss:List (List UInt8)}{n:Nat}(hk:P.underlying k=some .string)
  (ep:w.ownsMap P k R b n D) (hsm:∀ s∈L,s.size≤maxLen) (M5:∀ s:ae,s.size≤maxLen→has D (ky s)=decide (s∈L)) (hp:ss.Perm (strKeys D)) (fW:w'.ownsRow base e 1 v ss.length ((ss.mergeSort (fun x y=>decide (x≤y))).map encStr)):
  ∃ S:List ae,bg S∧(∀ s,s∈S↔s∈L)∧names w' e base v S:=by
 have tr:∀ a b c:List UInt8,leB a b=true→leB b c=true→leB a c=true:=fun a b c h1 h2=>by simp only[leB,Zn]at *;exact List.le_trans h1 h2
 have to:∀ a b:List UInt8,(leB a b || leB b a)=true:=fun a b=>by simp only[leB,YU,Zn];exact List.le_total a b
 have adf:=List.pairwise_mergeSort tr to ss
 have Gw:=List.mergeSort_perm ss leB
 have hnd:(ss.mergeSort leB).Nodup:=(Gw.trans hp).nodup_iff.2 (QK ep hk)
 refine⟨(ss.mergeSort leB).map fun l=>⟨l.toArray⟩,?_,fun s=> ?_,?_⟩
 ·refine XC.2 ((adf.and hnd).imp fun {a b} h=> ?_)
  rw[Dn]
  have h1:a≤b:=by simpa[leB]using h.1
  show a.toArray.toList<b.toArray.toList
  simp only[List.toList_toArray]
  rcases Decidable.em (a<b)with h2|h2
  ·exact h2
  ·exact absurd (List.le_antisymm h1 (List.not_lt.1 h2)) h.2
 ·rw[Y9]
  constructor
  ·rintro⟨x,hx,rfl⟩
   have fM:=(Gw.trans hp).mem_iff.1 hx
   have hle:=strKeys_le ep hk x fM
   have h3:=(HJ ep hk x).1 fM
   have h4:=M5 ⟨x.toArray⟩ (by show x.toArray.size≤_;simpa using hle)
   have h5:has D (ky ⟨x.toArray⟩)=true:=by simpa[ky]using h3
   rw[h5]at h4
   simpa using h4.symm
  ·intro hs
   refine⟨s.data.toList,(Gw.trans hp).mem_iff.2 ((HJ ep hk _).2 ?_),by simp⟩
   have:=M5 s (hsm s hs)
   rw[Zd hs]at this
   exact this
 ·refine names.Ph ?_
  rw[Z7,List.length_mergeSort,Yk]
  have e1:(Value.string ∘ fun l:List UInt8=>(⟨l.toArray⟩:ae))=encStr:=by funext l;simp[encStr]
  rw[e1];exact fW
abbrev Og(w:World):Value:= .func (.func 83) #[] #[.pointer (some ⟨w.heap.size,0,none⟩)]
abbrev Oh(w:World):Value:= .func (.func 87) #[] #[.pointer (some ⟨w.heap.size,0,none⟩)]
theorem Hk(b:Nat)(w:World):Calls prog 54 #[.map (some b)] w fun e w'=>e= .returned (Og w)∧w'=w.alloc (.cells #[.map (some b)] 86):=callsIn_wide.1 (Tryz.maps_Keys_54 (some b) w)
theorem Oi(b:Nat)(w:World):Calls prog 57 #[.map (some b)] w fun e w'=>e= .returned (Oh w)∧w'=w.alloc (.cells #[.map (some b)] 94):=callsIn_wide.1 (Tryz.maps_Keys_57 (some b) w)
theorem Ds{w:World}{b:Nat}{L:List ae}(h:bN w b L)(hn:L.length≤4398046511104):Calls prog 53 #[Og w] (w.alloc (.cells #[.map (some b)] 86)) fun e w'=>
  ∃ v S,e= .returned v∧bg S∧(∀ s,s∈S↔s∈L)∧names w' 9 (w.heap.size+1) v S∧Below (w.heap.size+1) (w.alloc (.cells #[.map (some b)] 86)) w':=by
 obtain⟨h1,h2,D,h3,h4,h5⟩:=h
 have hz:=h3.size_le
 refine(callsIn_wide.1 (Tryz.slices_Sorted_keys_53_54 b L.length D _ w h3 (by unfold maxLen;omega) (by omega))).mono fun e w' ⟨v,ss,he,hp,fW,_,hb⟩=> ?_
 obtain⟨S,g1,g2,g3⟩:=aND underlying9 h3 h2 h4 hp fW
 have e1:(w.alloc (.cells #[.map (some b)] 86)).heap.size=w.heap.size+1:=by simp
 rw[e1]at g3 hb
 exact⟨v,S,he,g1,g2,g3,hb⟩
theorem QE{w:World}{b:Nat}{L:List ae}{f:ae→Nat}(h:maps w prog 9 b L f)(hn:L.length≤4398046511104):Calls prog 53 #[Oh w] (w.alloc (.cells #[.map (some b)] 94)) fun e w'=>
  ∃ v S,e= .returned v∧bg S∧(∀ s,s∈S↔s∈L)∧names w' 9 (w.heap.size+1) v S∧Below (w.heap.size+1) (w.alloc (.cells #[.map (some b)] 94)) w':=by
 obtain⟨h1,h2,D,h3,h4,h5⟩:=h
 have hz:=h3.size_le
 refine(callsIn_wide.1 (Tryz.slices_Sorted_keys_53_57 b L.length D _ w h3 (by unfold maxLen;omega) (by omega))).mono fun e w' ⟨v,ss,he,hp,fW,_,hb⟩=> ?_
 obtain⟨S,g1,g2,g3⟩:=aND underlying9 h3 h2 h4 hp fW
 have e1:(w.alloc (.cells #[.map (some b)] 94)).heap.size=w.heap.size+1:=by simp
 rw[e1]at g3 hb
 exact⟨v,S,he,g1,g2,g3,hb⟩
end Go.Proofs.YtomhopcnkicknaaGreatDoor
