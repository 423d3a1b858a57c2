/- The sorted keys of a map, in the walk's words. -/
import Derived.Test.YtekngilbecjkhaaGreatDoorCd
import Derived.Test.YtekngilbecjkhaaGreatDoorSet
import Derived.Test.YtekngilbecjkhaaGreatDoorIter
set_option linter.unusedVariables false
set_option linter.unusedSimpArgs false
namespace Go.Proofs.YtekngilbecjkhaaGreatDoor
open Go.RowKit Go.Proofs Go.Tb Go.Maps
theorem mem_strKeys{P:Program}{k:TypeId}{R:Value→Option (DataW Unit×List MemPlace)}{w:World}{b n:Nat}{D:DataW Unit}(h:w.ownsMap P k R b n D)(hk:P.underlying k=some .string)(x:List UInt8):x∈strKeys D↔has D (.string x)=true:=by
 obtain⟨es,rfl,hks⟩:=h.keysOf
 rw[has_eq,List.any_eq_true]
 show x∈es.map (fun p=>strOf p.1)↔_
 rw[List.mem_map]
 constructor
 ·rintro⟨p,hp,rfl⟩
  obtain⟨v,hv⟩:=hks p hp
  obtain⟨y,_,hy,_⟩:=Maps.keyOf_str hk hv
  refine⟨p,hp,?_⟩
  rw[hy];exact WideAt.sameKey_self (show WideAt.IsKeyLit (.string y)from trivial)
 ·rintro⟨p,hp,hs⟩
  have:=WideAt.sameKey_eq hs
  exact⟨p,hp,by rw[this];rfl⟩
theorem strKeys_nodup{P:Program}{k:TypeId}{R:Value→Option (DataW Unit×List MemPlace)}{w:World}{b n:Nat}{D:DataW Unit}(h:w.ownsMap P k R b n D)(hk:P.underlying k=some .string):(strKeys D).Nodup:=by
 obtain⟨es,hD,hp⟩:=h.tidy (string_keyed hk)
 obtain⟨es',hD',hks⟩:=h.keysOf
 rw[hD]at hD'
 cases hD'
 subst hD
 show(es.map fun p=>strOf p.1).Nodup
 refine List.pairwise_map.2 (hp.imp_of_mem fun {p q} hp' hq' hne e=>hne ?_)
 obtain⟨v,hv⟩:=hks p hp'
 obtain⟨u,hu⟩:=hks q hq'
 obtain⟨x,_,hx,_⟩:=Maps.keyOf_str hk hv
 obtain⟨y,_,hy,_⟩:=Maps.keyOf_str hk hu
 rw[hx,hy]at e ⊢
 exact congrArg _ e
theorem sorted_names{P:Program}{k:TypeId}{R:Value→Option (DataW Unit×List MemPlace)}{w w':World}{b:Nat}{L:List Str}{base:Nat}{e:TypeId}{v:Value}{D:DataW Unit}{ss:List (List UInt8)}{n:Nat}(hk:P.underlying k=some .string)
  (hown:w.ownsMap P k R b n D) (hsm:∀ s∈L,s.size≤maxLen) (hhas:∀ s:Str,s.size≤maxLen→has D (ky s)=decide (s∈L)) (hp:ss.Perm (strKeys D)) (hrow:w'.ownsRow base e 1 v ss.length ((ss.mergeSort (fun x y=>decide (x≤y))).map encStr)):
  ∃ S:List Str,Srt S∧(∀ s,s∈S↔s∈L)∧names w' e base v S:=by
 have tr:∀ a b c:List UInt8,leB a b=true→leB b c=true→leB a c=true:=fun a b c h1 h2=>by simp only[leB,decide_eq_true_eq]at *;exact List.le_trans h1 h2
 have to:∀ a b:List UInt8,(leB a b || leB b a)=true:=fun a b=>by simp only[leB,Bool.or_eq_true,decide_eq_true_eq];exact List.le_total a b
 have hsort:=List.pairwise_mergeSort tr to ss
 have hperm:=List.mergeSort_perm ss leB
 have hnd:(ss.mergeSort leB).Nodup:=(hperm.trans hp).nodup_iff.2 (strKeys_nodup hown hk)
 refine⟨(ss.mergeSort leB).map fun l=>⟨l.toArray⟩,?_,fun s=> ?_,?_⟩
 ·refine List.pairwise_map.2 ((hsort.and hnd).imp fun {a b} h=> ?_)
  rw[sLt_iff]
  have h1:a≤b:=by simpa[leB]using h.1
  show a.toArray.toList<b.toArray.toList
  simp only[List.toList_toArray]
  rcases Decidable.em (a<b)with h2|h2
  ·exact h2
  ·exact absurd (List.le_antisymm h1 (List.not_lt.1 h2)) h.2
 ·rw[List.mem_map]
  constructor
  ·rintro⟨x,hx,rfl⟩
   have hx2:=(hperm.trans hp).mem_iff.1 hx
   have hle:=strKeys_le hown hk x hx2
   have h3:=(mem_strKeys hown hk x).1 hx2
   have h4:=hhas ⟨x.toArray⟩ (by show x.toArray.size≤_;simpa using hle)
   have h5:has D (ky ⟨x.toArray⟩)=true:=by simpa[ky]using h3
   rw[h5]at h4
   simpa using h4.symm
  ·intro hs
   refine⟨s.data.toList,(hperm.trans hp).mem_iff.2 ((mem_strKeys hown hk _).2 ?_),by simp⟩
   have:=hhas s (hsm s hs)
   rw[decide_eq_true hs]at this
   exact this
 ·refine names.of_row ?_
  rw[List.length_map,List.length_mergeSort,List.map_map]
  have e1:(Value.string ∘ fun l:List UInt8=>(⟨l.toArray⟩:Str))=encStr:=by funext l;simp[encStr]
  rw[e1];exact hrow
abbrev keysB(w:World):Value:= .func (.func 75) #[] #[.pointer (some ⟨w.heap.size,0,none⟩)]
abbrev keysM(w:World):Value:= .func (.func 78) #[] #[.pointer (some ⟨w.heap.size,0,none⟩)]
theorem keysB_call(b:Nat)(w:World):Calls Tryz.prog 47 #[.map (some b)] w fun e w'=>e= .returned (keysB w)∧w'=w.alloc (.cells #[.map (some b)] 70):=callsIn_wide.1 (Tryz.maps_Keys_47 (some b) w)
theorem keysM_call(b:Nat)(w:World):Calls Tryz.prog 49 #[.map (some b)] w fun e w'=>e= .returned (keysM w)∧w'=w.alloc (.cells #[.map (some b)] 76):=callsIn_wide.1 (Tryz.maps_Keys_49 (some b) w)
theorem sortedB_call{w:World}{b:Nat}{L:List Str}(h:SetAt w b L)(hn:L.length≤4398046511104):Calls Tryz.prog 46 #[keysB w] (w.alloc (.cells #[.map (some b)] 70)) fun e w'=>
  ∃ v S,e= .returned v∧Srt S∧(∀ s,s∈S↔s∈L)∧names w' 9 (w.heap.size+1) v S∧Below (w.heap.size+1) (w.alloc (.cells #[.map (some b)] 70)) w':=by
 obtain⟨h1,h2,D,h3,h4,h5⟩:=h
 have hz:=h3.size_le
 refine(callsIn_wide.1 (Tryz.slices_Sorted_keys_46_47 b L.length D _ w h3 (by unfold maxLen;omega) (by omega))).mono fun e w' ⟨v,ss,he,hp,hrow,_,hb⟩=> ?_
 obtain⟨S,g1,g2,g3⟩:=sorted_names Tryz.underlying9 h3 h2 h4 hp hrow
 have e1:(w.alloc (.cells #[.map (some b)] 70)).heap.size=w.heap.size+1:=by simp
 rw[e1]at g3 hb
 exact⟨v,S,he,g1,g2,g3,hb⟩
theorem sortedM_call{w:World}{b:Nat}{L:List Str}{f:Str→Nat}(h:maps w Tryz.prog 9 b L f)(hn:L.length≤4398046511104):Calls Tryz.prog 46 #[keysM w] (w.alloc (.cells #[.map (some b)] 76)) fun e w'=>
  ∃ v S,e= .returned v∧Srt S∧(∀ s,s∈S↔s∈L)∧names w' 9 (w.heap.size+1) v S∧Below (w.heap.size+1) (w.alloc (.cells #[.map (some b)] 76)) w':=by
 obtain⟨h1,h2,D,h3,h4,h5⟩:=h
 have hz:=h3.size_le
 refine(callsIn_wide.1 (Tryz.slices_Sorted_keys_46_49 b L.length D _ w h3 (by unfold maxLen;omega) (by omega))).mono fun e w' ⟨v,ss,he,hp,hrow,_,hb⟩=> ?_
 obtain⟨S,g1,g2,g3⟩:=sorted_names Tryz.underlying9 h3 h2 h4 hp hrow
 have e1:(w.alloc (.cells #[.map (some b)] 76)).heap.size=w.heap.size+1:=by simp
 rw[e1]at g3 hb
 exact⟨v,S,he,g1,g2,g3,hb⟩
end Go.Proofs.YtekngilbecjkhaaGreatDoor
