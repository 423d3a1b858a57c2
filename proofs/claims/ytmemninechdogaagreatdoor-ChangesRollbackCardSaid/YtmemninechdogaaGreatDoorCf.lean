import Derived.Test.YtmemninechdogaaGreatDoorCd
import Derived.Test.YtmemninechdogaaGreatDoorNm
set_option linter.all false
namespace Go.Proofs.YtmemninechdogaaGreatDoor
open _root_.Go.Proofs.Tryz
open Go.RowKit Go.Proofs Go.Tb Go.Maps
theorem J8{P:Program}{k:TypeId}{R:Value->Option (DataW Unit×List MemPlace)}{w:World}{b n:Nat}{D:DataW Unit}(h:w.ownsMap P k R b n D)(hk:P.underlying k=some .string)(x:List UInt8):x∈strKeys D↔has D (.string x)=true:=by
 obtain⟨es,rfl,x8⟩:=h.keysOf;rw[has_eq,Yh];show x∈es.map (fun p=>strOf p.1)↔_;rw[Ze];constructor
 .rintro⟨p,hp,rfl⟩;obtain⟨v,hv⟩:=x8 p hp;obtain⟨y,_,hy,_⟩:=Maps.keyOf_str hk hv;refine⟨p,hp,?_⟩;rw[hy];exact WideAt.sameKey_self (show WideAt.IsKeyLit (.string y)from trivial)
 .rintro⟨p,hp,hs⟩;have:=WideAt.sameKey_eq hs;exact⟨p,hp,by rw[this];rfl⟩
theorem TF{P:Program}{k:TypeId}{R:Value->Option (DataW Unit×List MemPlace)}{w:World}{b n:Nat}{D:DataW Unit}(h:w.ownsMap P k R b n D)(hk:P.underlying k=some .string):(strKeys D).Nodup:=by obtain⟨es,hD,hp⟩:=h.tidy (string_keyed hk);obtain⟨CZ,Dk,x8⟩:=h.keysOf;rw[hD]at Dk;cases Dk;subst hD;refine Xe.2 (hp.imp_of_mem fun {p q} mQ oV aW e=>aW ?_);obtain⟨v,hv⟩:=x8 p mQ;obtain⟨u,hu⟩:=x8 q oV;obtain⟨x,_,hx,_⟩:=Maps.keyOf_str hk hv;obtain⟨y,_,hy,_⟩:=Maps.keyOf_str hk hu;rw[hx,hy]at e|-;exact Zk _ e
theorem K2{P:Program}{k:TypeId}{R:Value->Option (DataW Unit×List MemPlace)}{w w':World}{b:Nat}{L:List ae}{base:Nat}{e:TypeId}{v:Value}{D:DataW Unit}{ss:List (List UInt8)}{n:Nat}(hk:P.underlying k=some .string)
  (dL:w.ownsMap P k R b n D) (hsm:∀s∈L,s.size<=maxLen) (Pn:∀s:ae,s.size<=maxLen->has D (ky s)=decide (s∈L)) (hp:ss.Perm (strKeys D)) (nK:w'.ownsRow base e 1 v ss.length ((ss.mergeSort (fun x y=>decide (x<=y))).map encStr)):
  ∃S:List ae,bI S/\(∀s,s∈S↔s∈L)/\names w' e base v S:=by
 have tr:∀a b c:List UInt8,leB a b=true->leB b c=true->leB a c=true:=fun a b c h1 h2=>by grind
 have to:∀a b:List UInt8,(leB a b||leB b a)=true:=fun a b=>by grind
 have aed:=List.pairwise_mergeSort tr to ss;have Jk:=List.mergeSort_perm ss leB;have BE:(ss.mergeSort leB).Nodup:=(Jk.trans hp).nodup_iff.2 (TF dL hk);refine⟨(ss.mergeSort leB).map fun l=>⟨l.toArray⟩,?_,fun s=>?_,?_⟩
 .refine Xe.2 ((aed.and BE).imp fun {a b} h=>?_);rw[E3];grind
 .rw[Ze];constructor
  .rintro⟨x,hx,rfl⟩;have eu:=(Jk.trans hp).mem_iff.1 hx;have hle:=strKeys_le dL hk x eu;have h3:=(J8 dL hk x).1 eu;have h4:=Pn ⟨x.toArray⟩ (by assumption);have h5:has D (ky ⟨x.toArray⟩)=true:=by assumption
   grind
  .intro hs;refine⟨s.data.toList,(Jk.trans hp).mem_iff.2 ((J8 dL hk _).2 ?_),by simp⟩;have:=Pn s (hsm s hs);rw[Y7 hs]at this;exact this
 .refine names.R3 ?_;rw[Z5,List.length_mergeSort,Yu];have e1:(Value.string ∘ fun l:List UInt8=>(⟨l.toArray⟩:ae))=encStr:=by grind
  grind
abbrev QW(w:World):Value:=.func (.func 244) #[] #[.pointer (some ⟨w.heap.size,0,none⟩)]
abbrev QX(w:World):Value:=.func (.func 192) #[] #[.pointer (some ⟨w.heap.size,0,none⟩)]
theorem aha(b:Nat)(w:World):Calls prog 193 #[.map (some b)] w fun e w'=>e= .returned (QW w)/\w'=w.alloc (.cells #[.map (some b)] 210):=callsIn_wide.1 (Tryz.maps_Keys_193 (some b) w)
theorem ahb(b:Nat)(w:World):Calls prog 138 #[.map (some b)] w fun e w'=>e= .returned (QX w)/\w'=w.alloc (.cells #[.map (some b)] 204):=callsIn_wide.1 (Tryz.maps_Keys_138 (some b) w)
theorem ak2{w:World}{b:Nat}{L:List ae}(h:cz w b L)(hn:L.length<=4398046511104):Calls prog 137 #[QW w] (w.alloc (.cells #[.map (some b)] 210)) fun e w'=>
  ∃v S,e= .returned v/\bI S/\(∀s,s∈S↔s∈L)/\names w' 9 (w.heap.size+1) v S/\Below (w.heap.size+1) (w.alloc (.cells #[.map (some b)] 210)) w':=by
 obtain⟨h1,h2,D,h3,h4,h5⟩:=h;have hz:=h3.size_le;refine(callsIn_wide.1 (Tryz.slices_Sorted_keys_137_193 b L.length D _ w h3 (by unfold maxLen;omega) (by omega))).mono fun e w' ⟨v,ss,he,hp,nK,_,hb⟩=>?_;obtain⟨S,g1,g2,g3⟩:=K2 underlying9 h3 h2 h4 hp nK;have e1:(w.alloc (.cells #[.map (some b)] 210)).heap.size=w.heap.size+1:=by simp
 grind
theorem ak3{w:World}{b:Nat}{L:List ae}{f:ae->Nat}(h:maps w prog 9 b L f)(hn:L.length<=4398046511104):Calls prog 137 #[QX w] (w.alloc (.cells #[.map (some b)] 204)) fun e w'=>
  ∃v S,e= .returned v/\bI S/\(∀s,s∈S↔s∈L)/\names w' 9 (w.heap.size+1) v S/\Below (w.heap.size+1) (w.alloc (.cells #[.map (some b)] 204)) w':=by
 obtain⟨h1,h2,D,h3,h4,h5⟩:=h;have hz:=h3.size_le;refine(callsIn_wide.1 (Tryz.slices_Sorted_keys_137_138 b L.length D _ w h3 (by unfold maxLen;omega) (by omega))).mono fun e w' ⟨v,ss,he,hp,nK,_,hb⟩=>?_;obtain⟨S,g1,g2,g3⟩:=K2 underlying9 h3 h2 h4 hp nK;have e1:(w.alloc (.cells #[.map (some b)] 204)).heap.size=w.heap.size+1:=by simp
 grind
