/- Sorted names, rows of names (for seats without the catalog). -/
import Derived.Test.YtcccbdelfhgmlaaGreatDoorTz
import Derived.Test.YtcccbdelfhgmlaaGreatDoorZb
import Derived.Test.YtcccbdelfhgmlaaGreatDoorPt
import Derived.Test.YtcccbdelfhgmlaaGreatDoorZf
import Derived.Laws.AppendOwn
import Derived.Laws.Slices
set_option linter.unusedSimpArgs false
set_option linter.unusedVariables false
set_option linter.unusedSectionVars false
set_option maxRecDepth 100000
namespace Go.Tb
open Go.RowKit
def names(w:World)(e:TypeId)(lo:Nat)(v:Value)(L:List ByteArray):Prop:=
 ∃ a cap,v= .slice a L.length cap∧L.length≤cap∧cap≤maxLen∧
  (0<cap→∃ g off cur,a=some ⟨g,off,none⟩∧lo≤g∧w.heap[g]? =some (.cells cur e (0,0))∧off+cap≤cur.size∧∀ j (hj:j<L.length),cur[off+j]? =some (.string L[j]))
theorem names.SV{w:World}{e:TypeId}{base:Nat}{v:Value}{L:List ByteArray}(h:w.ownsRow base e 1 v L.length (L.map .string)):names w e base v L:=by
 obtain⟨h1,h2⟩:=h
 rcases h2 with⟨rfl,hn⟩|⟨g,cap,cur,rfl,hb,hg,hc,hm,hs,ht⟩
 ·exact⟨none,0,by rw[hn],by omega,by simp,fun h=>absurd h (by omega)⟩
 ·refine⟨_,cap,rfl,hc,hm,fun _=>⟨g,0,cur,rfl,hb,hg,by omega,fun j hj=> ?_⟩⟩
  have e1:=Zy (fun l=>l[j]?) ht
  simp only[Yi,List.getElem?_take,Z8 hj,YA,Z4 hj,Zh]at e1
  rw[Zc];simpa using e1
end Go.Tb
namespace Go.Proofs.YtcccbdelfhgmlaaGreatDoor
section
open Go.Sx Go.Proofs
theorem ND:∀ (x y:List UInt8),Op.bytesLess x y=decide (x<y)
 |[],[]=>by simp[Op.bytesLess]
 |_::_,[]=>by simp[Op.bytesLess]
 |[],_::_=>by simp[Op.bytesLess]
 |a::x,b::y=>by
  rw[Op.bytesLess,ND x y]
  simp only[List.cons_lt_cons_iff]
  by_cases h1:a<b<;>by_cases h2:a=b<;>by_cases h3:x<y<;>simp[h1,h2,h3]
theorem toList_data(a:ae):a.toList=a.data.toList:=ByteArray.toList_eq a
theorem Fi(a b:ae):dL a b=true↔a.data.toList<b.data.toList:=by
 unfold dL
 rw[ND,toList_data,toList_data,Zq]
theorem y0(a:ae):dL a a=false:=by
 rw[← X9,Fi];exact List.lt_irrefl _
theorem Fj{a b c:ae}(h:dL a b=true)(k:dL b c=true):dL a c=true:=by
 rw[Fi]at *;exact List.lt_trans h k
theorem KR{a b:ae}(h:dL a b=false)(k:dL b a=false):a=b:=by
 rw[← X9,Fi]at h k
 exact ui (List.le_antisymm (List.not_lt.1 k) (List.not_lt.1 h))
theorem Ue{a b:ae}(h:dL a b=true):dL b a=false:=by
 rw[← X9];intro k
 have:=Fj h k
 rw[y0]at this;cases this
def bO(l:List ae):Prop:=l.Pairwise fun a b=>dL a b=true
theorem ug:bO []:=List.Pairwise.nil
theorem yR{s x:ae}:∀ {l:List ae},x∈ju l s↔x=s∨x∈l
 |[]=>by simp[ju]
 |a::l=>by
  have ih:=yR (s:=s) (x:=x) (l:=l)
  unfold ju
  split
  ·simp only[ZV,ih];grind
  ·split
   ·rename_i h;subst h;simp
   ·simp
theorem Cg{s:ae}:∀ {l:List ae},bO l→bO (ju l s)
 |[],_=>by simp[ju,bO]
 |a::l,h=>by
  have h1:=Yn.1 h
  unfold ju
  split
  ·rename_i ax
   refine Yn.2 ⟨fun x hx=> ?_,Cg h1.2⟩
   rcases yR.1 hx with rfl|hx
   ·exact ax
   ·exact h1.1 x hx
  ·split
   ·exact h
   ·rename_i h2 h3
    have h4:dL s a=true:=by
     by_cases e:dL s a=true
     ·exact e
     ·exact absurd (KR (by simpa using h2) (by simpa using e)) h3
    refine Yn.2 ⟨fun x hx=> ?_,h⟩
    rcases ZV.1 hx with rfl|hx
    ·exact h4
    ·exact Fj h4 (h1.1 x hx)
theorem oP:∀ {a b:List ae},bO a→bO b→(∀ x,x∈a↔x∈b)→a=b
 |[],[],_,_,_=>rfl
 |[],y::b,_,_,h=>absurd ((h y).2 (by simp)) (by simp)
 |x::a,[],_,_,h=>absurd ((h x).1 (by simp)) (by simp)
 |x::a,y::b,ha,hb,h=>by
  have h1:=Yn.1 ha
  have h2:=Yn.1 hb
  have e:x=y:=by
   rcases ZV.1 ((h x).1 (by simp))with e|hx
   ·exact e
   ·rcases ZV.1 ((h y).2 (by simp))with e|hy
    ·exact e.symm
    ·have k1:=h2.1 x hx
     have k2:=h1.1 y hy
     rw[Ue k1]at k2;cases k2
  subst e
  rw[oP h1.2 h2.2 fun z=> ?_]
  have hz:=h z
  have n1:x∉a:=fun hm=>by have:=h1.1 x hm;rw[y0]at this;cases this
  have n2:x∉b:=fun hm=>by have:=h2.1 x hm;rw[y0]at this;cases this
  constructor
  ·intro hm
   rcases ZV.1 (hz.1 (by simp[hm]))with e|h'
   ·subst e;exact absurd hm n1
   ·exact h'
  ·intro hm
   rcases ZV.1 (hz.2 (by simp[hm]))with e|h'
   ·subst e;exact absurd hm n2
   ·exact h'
theorem wj{l:List ae}(h:bO l):l.Nodup:=h.imp fun {a b} eF e=>by rw[e,y0]at eF;cases eF
theorem iN{α:Type}[DecidableEq α]:∀ {a b:List α},a.Nodup→(∀ x∈a,x∈b)→a.length≤b.length
 |[],_,_,_=>ZH _
 |x::a,b,h,hs=>by
  have h1:=YG.1 h
  have hx:=hs x (by simp)
  have h2:=iN (b:=b.erase x) h1.2 fun y hy=>(List.mem_erase_of_ne (fun e=>h1.1 (by rw[← e];exact hy))).2 (hs y (by simp[hy]))
  rw[List.length_erase_of_mem hx]at h2
  have h3:0<b.length:=List.length_pos_of_mem hx
  simp only[Z6]
  omega
theorem y7{x:ae}:∀ {l:List ae},x∈jT l↔x∈l
 |[]=>Iff.rfl
 |s::l=>by rw[jT,yR,y7 (l:=l),ZV]
theorem y8:∀ l:List ae,bO (jT l)
 |[]=>ug
 |s::l=>Cg (y8 l)
theorem UJ(a b:ByteArray):(a == b)=decide (a=b):=by
 obtain⟨a⟩:=a
 obtain⟨b⟩:=b
 rw[YF]
 show(a == b)=true↔_
 simp
end
section
open Go.RowKit Go.Proofs Go.Tb Go.Maps
open Go.Sx (AV Inv Mem RL R Glob Store BlkOK Base)
theorem Ka{P:Program}{k:TypeId}{R:Value→Option (DataW Unit×List MemPlace)}{w:World}{b n:Nat}{D:DataW Unit}(h:w.ownsMap P k R b n D)(hk:P.underlying k=some .string)(x:List UInt8):x∈strKeys D↔has D (.string x)=true:=by
 obtain⟨es,rfl,td⟩:=h.keysOf
 rw[has_eq,YC]
 show x∈es.map (fun p=>strOf p.1)↔_
 rw[YX]
 constructor
 ·rintro⟨p,hp,rfl⟩
  obtain⟨v,hv⟩:=td p hp
  obtain⟨y,_,hy,_⟩:=Maps.keyOf_str hk hv
  refine⟨p,hp,?_⟩
  rw[hy];exact WideAt.sameKey_self (show WideAt.IsKeyLit (.string y)from trivial)
 ·rintro⟨p,hp,hs⟩
  have:=WideAt.sameKey_eq hs
  exact⟨p,hp,by rw[this];rfl⟩
theorem UH{P:Program}{k:TypeId}{R:Value→Option (DataW Unit×List MemPlace)}{w:World}{b n:Nat}{D:DataW Unit}(h:w.ownsMap P k R b n D)(hk:P.underlying k=some .string):(strKeys D).Nodup:=by
 obtain⟨es,hD,hp⟩:=h.tidy (string_keyed hk)
 obtain⟨es',P0,td⟩:=h.keysOf
 rw[hD]at P0
 cases P0
 subst hD
 show(es.map fun p=>strOf p.1).Nodup
 refine List.pairwise_map.2 (hp.imp_of_mem fun {p q} ot j8 aJ e=>aJ ?_)
 obtain⟨v,hv⟩:=td p ot
 obtain⟨u,hu⟩:=td q j8
 obtain⟨x,_,hx,_⟩:=Maps.keyOf_str hk hv
 obtain⟨y,_,hy,_⟩:=Maps.keyOf_str hk hu
 rw[hx,hy]at e ⊢
 exact Zy _ e
theorem KZ{P:Program}{k:TypeId}{R:Value→Option (DataW Unit×List MemPlace)}{w w':World}{b:Nat}{L:List ae}{base:Nat}{e:TypeId}{v:Value}{D:DataW Unit}{ss:List (List UInt8)}{n:Nat}(hk:P.underlying k=some .string)
  (gh:w.ownsMap P k R b n D) (hsm:∀ s∈L,s.size≤maxLen) (QB:∀ s:ae,s.size≤maxLen→has D (ky s)=decide (s∈L)) (hp:ss.Perm (strKeys D)) (nh:w'.ownsRow base e 1 v ss.length ((ss.mergeSort (fun x y=>decide (x≤y))).map encStr)):
  ∃ S:List ae,bO S∧(∀ s,s∈S↔s∈L)∧names w' e base v S:=by
 have tr:∀ a b c:List UInt8,leB a b=true→leB b c=true→leB a c=true:=fun a b c h1 h2=>by simp only[leB,Zq]at *;exact List.le_trans h1 h2
 have to:∀ a b:List UInt8,(leB a b || leB b a)=true:=fun a b=>by simp only[leB,Y7,Zq];exact List.le_total a b
 have Jx:=List.pairwise_mergeSort tr to ss
 have Jn:=List.mergeSort_perm ss leB
 have hnd:(ss.mergeSort leB).Nodup:=(Jn.trans hp).nodup_iff.2 (UH gh hk)
 refine⟨(ss.mergeSort leB).map fun l=>⟨l.toArray⟩,?_,fun s=> ?_,?_⟩
 ·refine List.pairwise_map.2 ((Jx.and hnd).imp fun {a b} h=> ?_)
  rw[Fi]
  have h1:a≤b:=by simpa[leB]using h.1
  show a.toArray.toList<b.toArray.toList
  simp only[List.toList_toArray]
  rcases Decidable.em (a<b)with h2|h2
  ·exact h2
  ·exact absurd (List.le_antisymm h1 (List.not_lt.1 h2)) h.2
 ·rw[YX]
  constructor
  ·rintro⟨x,hx,rfl⟩
   have dK:=(Jn.trans hp).mem_iff.1 hx
   have hle:=strKeys_le gh hk x dK
   have h3:=(Ka gh hk x).1 dK
   have h4:=QB ⟨x.toArray⟩ (by show x.toArray.size≤_;simpa using hle)
   have h5:has D (ky ⟨x.toArray⟩)=true:=by simpa[ky]using h3
   rw[h5]at h4
   simpa using h4.symm
  ·intro hs
   refine⟨s.data.toList,(Jn.trans hp).mem_iff.2 ((Ka gh hk _).2 ?_),by simp⟩
   have:=QB s (hsm s hs)
   rw[Zi hs]at this
   exact this
 ·refine names.SV ?_
  rw[Z3,List.length_mergeSort,Yf]
  have e1:(Value.string ∘ fun l:List UInt8=>(⟨l.toArray⟩:ae))=encStr:=by funext l;simp[encStr]
  rw[e1];exact nh
theorem FB:(Tryz.prog.info? 9).map (fun i=>(i.zero,i.size,i.bytes))=some (some (.string ⟨#[]⟩),1,16):=by kernel_rfl
theorem abI{w:World}{g o:Nat}{cur:Array Value}{e:TypeId}{f:Nat×Nat}(h:w.heap[g]? =some (.cells cur e f)):w.cell? ⟨g,o,none⟩=cur[o]? :=by simp[World.cell?,h]
theorem B0{M:Mem}{w':World}{n lo:Nat}{e:TypeId}{v:Value}{L:List ae}(h:names w' e lo v L)(hl:n≤lo):R (mr M n w') (.sl false 1 (L.map fL)) v:=by
 obtain⟨a,cap,rfl,h1,h2,h3⟩:=h
 by_cases hc:cap=0
 ·subst hc
  have:L=[]:=ZO (by omega)
  subst this
  exact .nil false 1 a (by simp)
 ·obtain⟨g,off,cur,rfl,g2,g3,g4,g5⟩:=h3 (by omega)
  have:=R.sl (M:=mr M n w') false 1 (L.map fL) g off cap (fun k=> .string (L.getD k ⟨#[]⟩)) (fun i hi=>by rw[Zm];rfl) (fun k hk=> ?_) (fun i hi j hj=> ?_) (by rw[Z3];exact h1) h2
  ·rw[Z3]at this;exact this
  ·have hk:k<L.length:=by simpa using hk
   unfold mr
   rw[Z8 (by omega),abI g3,g5 k hk,ZY,Z4 hk];rfl
  ·have hi:i<L.length:=by simpa using hi
   simp only[Zm,fL,Z6,ZW]at hj ⊢
   obtain rfl:j=0:=by omega
   rw[ZY,Yi,YP,Z4 hi]
   exact .v _
abbrev jU(l:List ae):AV:= .sl false 1 (l.map fL)
end
end Go.Proofs.YtcccbdelfhgmlaaGreatDoor
