/- Sorted names, rows of names (for seats without the catalog). -/
import Derived.Test.YtbihckigennlhaaGreatDoorTz
import Derived.Test.YtbihckigennlhaaGreatDoorZb
import Derived.Test.YtbihckigennlhaaGreatDoorPt
import Derived.Test.YtbihckigennlhaaGreatDoorZf
import Derived.Laws.AppendOwn
import Derived.Laws.Slices
set_option linter.unusedSimpArgs false
set_option linter.unusedVariables false
set_option linter.unusedSectionVars false
set_option maxRecDepth 100000
namespace Go.Tb
open Go.RowKit
def names(w:World)(e:TypeId)(lo:Nat)(v:Value)(L:List ByteArray):Prop:=
 ∃ a cap,v= .slice a L.length cap∧L.length≤cap∧cap≤maxLen∧
  (0<cap→∃ g off cur,a=some ⟨g,off,none⟩∧lo≤g∧w.heap[g]? =some (.cells cur e (0,0))∧off+cap≤cur.size∧∀ j (hj:j<L.length),cur[off+j]? =some (.string L[j]))
theorem names.aa0{w:World}{e:TypeId}{base:Nat}{v:Value}{L:List ByteArray}(h:w.ownsRow base e 1 v L.length (L.map .string)):names w e base v L:=by
 obtain⟨h1,h2⟩:=h
 rcases h2 with⟨rfl,hn⟩|⟨g,cap,cur,rfl,hb,hg,hc,hm,hs,ht⟩
 ·exact⟨none,0,by rw[hn],by omega,by simp,fun h=>absurd h (by omega)⟩
 ·refine⟨_,cap,rfl,hc,hm,fun _=>⟨g,0,cur,rfl,hb,hg,by omega,fun j hj=> ?_⟩⟩
  have e1:=congrArg (fun l=>l[j]?) ht
  simp only[X8,List.getElem?_take,if_pos hj,X5,Z1 hj,Zy]at e1
  rw[Y8];simpa using e1
end Go.Tb
namespace Go.Proofs.YtbihckigennlhaaGreatDoor
section
open Go.Sx Go.Proofs
theorem G5:∀ (x y:List UInt8),Op.bytesLess x y=decide (x<y)
 |[],[]=>by simp[Op.bytesLess]
 |_::_,[]=>by simp[Op.bytesLess]
 |[],_::_=>by simp[Op.bytesLess]
 |a::x,b::y=>by
  rw[Op.bytesLess,G5 x y]
  simp only[List.cons_lt_cons_iff]
  by_cases h1:a<b<;>by_cases h2:a=b<;>by_cases h3:x<y<;>simp[h1,h2,h3]
theorem toList_data(a:ag):a.toList=a.data.toList:=ByteArray.toList_eq a
theorem AA(a b:ag):gW a b=true↔a.data.toList<b.data.toList:=by
 unfold gW
 rw[G5,toList_data,toList_data,ZG]
theorem AB(a:ag):gW a a=false:=by
 rw[← YA,AA];exact List.lt_irrefl _
theorem EA{a b c:ag}(h:gW a b=true)(k:gW b c=true):gW a c=true:=by
 rw[AA]at *;exact List.lt_trans h k
theorem Mn{a b:ag}(h:gW a b=false)(k:gW b a=false):a=b:=by
 rw[← YA,AA]at h k
 exact qo (List.le_antisymm (List.not_lt.1 k) (List.not_lt.1 h))
theorem arD{a b:ag}(h:gW a b=true):gW b a=false:=by
 rw[← YA];intro k
 have:=EA h k
 rw[AB]at this;cases this
def mw(l:List ag):Prop:=l.Pairwise fun a b=>gW a b=true
theorem MD:mw []:=List.Pairwise.nil
theorem Em{s x:ag}:∀ {l:List ag},x∈qc l s↔x=s∨x∈l
 |[]=>by simp[qc]
 |a::l=>by
  have ih:=Em (s:=s) (x:=x) (l:=l)
  unfold qc
  split
  ·simp only[ZU,ih];grind
  ·split
   ·rename_i h;subst h;simp
   ·simp
theorem LG{s:ag}:∀ {l:List ag},mw l→mw (qc l s)
 |[],_=>by simp[qc,mw]
 |a::l,h=>by
  have h1:=Yk.1 h
  unfold qc
  split
  ·rename_i aE
   refine Yk.2 ⟨fun x hx=> ?_,LG h1.2⟩
   rcases Em.1 hx with rfl|hx
   ·exact aE
   ·exact h1.1 x hx
  ·split
   ·exact h
   ·rename_i h2 h3
    have h4:gW s a=true:=by
     by_cases e:gW s a=true
     ·exact e
     ·exact absurd (Mn (by simpa using h2) (by simpa using e)) h3
    refine Yk.2 ⟨fun x hx=> ?_,h⟩
    rcases ZU.1 hx with rfl|hx
    ·exact h4
    ·exact EA h4 (h1.1 x hx)
theorem AK:∀ {a b:List ag},mw a→mw b→(∀ x,x∈a↔x∈b)→a=b
 |[],[],_,_,_=>rfl
 |[],y::b,_,_,h=>absurd ((h y).2 (by simp)) (by simp)
 |x::a,[],_,_,h=>absurd ((h x).1 (by simp)) (by simp)
 |x::a,y::b,ha,hb,h=>by
  have h1:=Yk.1 ha
  have h2:=Yk.1 hb
  have e:x=y:=by
   rcases ZU.1 ((h x).1 (by simp))with e|hx
   ·exact e
   ·rcases ZU.1 ((h y).2 (by simp))with e|hy
    ·exact e.symm
    ·have k1:=h2.1 x hx
     have k2:=h1.1 y hy
     rw[arD k1]at k2;cases k2
  subst e
  rw[AK h1.2 h2.2 fun z=> ?_]
  have hz:=h z
  have n1:x∉a:=fun hm=>by have:=h1.1 x hm;rw[AB]at this;cases this
  have n2:x∉b:=fun hm=>by have:=h2.1 x hm;rw[AB]at this;cases this
  constructor
  ·intro hm
   rcases ZU.1 (hz.1 (by simp[hm]))with e|h'
   ·subst e;exact absurd hm n1
   ·exact h'
  ·intro hm
   rcases ZU.1 (hz.2 (by simp[hm]))with e|h'
   ·subst e;exact absurd hm n2
   ·exact h'
theorem ME{l:List ag}(h:mw l):l.Nodup:=h.imp fun {a b} dV e=>by rw[e,AB]at dV;cases dV
theorem K0{α:Type}[DecidableEq α]:∀ {a b:List α},a.Nodup→(∀ x∈a,x∈b)→a.length≤b.length
 |[],_,_,_=>ZF _
 |x::a,b,h,hs=>by
  have h1:=YL.1 h
  have hx:=hs x (by simp)
  have h2:=K0 (b:=b.erase x) h1.2 fun y hy=>(List.mem_erase_of_ne (fun e=>h1.1 (by rw[← e];exact hy))).2 (hs y (by simp[hy]))
  rw[List.length_erase_of_mem hx]at h2
  have h3:0<b.length:=List.length_pos_of_mem hx
  simp only[Z8]
  omega
theorem vd{x:ag}:∀ {l:List ag},x∈iH l↔x∈l
 |[]=>Iff.rfl
 |s::l=>by rw[iH,Em,vd (l:=l),ZU]
theorem ve:∀ l:List ag,mw (iH l)
 |[]=>MD
 |s::l=>LG (ve l)
theorem MG(a b:ByteArray):(a == b)=decide (a=b):=by
 obtain⟨a⟩:=a
 obtain⟨b⟩:=b
 rw[YH]
 show(a == b)=true↔_
 simp
end
section
open Go.RowKit Go.Proofs Go.Tb Go.Maps
open Go.Sx (AV Inv Mem RL R Glob Store BlkOK Base)
theorem KP{P:Program}{k:TypeId}{R:Value→Option (DataW Unit×List MemPlace)}{w:World}{b n:Nat}{D:DataW Unit}(h:w.ownsMap P k R b n D)(hk:P.underlying k=some .string)(x:List UInt8):x∈strKeys D↔has D (.string x)=true:=by
 obtain⟨es,rfl,zH⟩:=h.keysOf
 rw[has_eq,Yn]
 show x∈es.map (fun p=>strOf p.1)↔_
 rw[YZ]
 constructor
 ·rintro⟨p,hp,rfl⟩
  obtain⟨v,hv⟩:=zH p hp
  obtain⟨y,_,hy,_⟩:=Maps.keyOf_str hk hv
  refine⟨p,hp,?_⟩
  rw[hy];exact WideAt.sameKey_self (show WideAt.IsKeyLit (.string y)from trivial)
 ·rintro⟨p,hp,hs⟩
  have:=WideAt.sameKey_eq hs
  exact⟨p,hp,by rw[this];rfl⟩
theorem asr{P:Program}{k:TypeId}{R:Value→Option (DataW Unit×List MemPlace)}{w:World}{b n:Nat}{D:DataW Unit}(h:w.ownsMap P k R b n D)(hk:P.underlying k=some .string):(strKeys D).Nodup:=by
 obtain⟨es,hD,hp⟩:=h.tidy (string_keyed hk)
 obtain⟨es',I4,zH⟩:=h.keysOf
 rw[hD]at I4
 cases I4
 subst hD
 show(es.map fun p=>strOf p.1).Nodup
 refine List.pairwise_map.2 (hp.imp_of_mem fun {p q} pH rG aR e=>aR ?_)
 obtain⟨v,hv⟩:=zH p pH
 obtain⟨u,hu⟩:=zH q rG
 obtain⟨x,_,hx,_⟩:=Maps.keyOf_str hk hv
 obtain⟨y,_,hy,_⟩:=Maps.keyOf_str hk hu
 rw[hx,hy]at e ⊢
 exact congrArg _ e
theorem asd{P:Program}{k:TypeId}{R:Value→Option (DataW Unit×List MemPlace)}{w w':World}{b:Nat}{L:List ag}{base:Nat}{e:TypeId}{v:Value}{D:DataW Unit}{ss:List (List UInt8)}{n:Nat}(hk:P.underlying k=some .string)
  (jO:w.ownsMap P k R b n D) (V0:∀ s∈L,s.size≤maxLen) (Jx:∀ s:ag,s.size≤maxLen→has D (ky s)=decide (s∈L)) (hp:ss.Perm (strKeys D)) (pK:w'.ownsRow base e 1 v ss.length ((ss.mergeSort (fun x y=>decide (x≤y))).map encStr)):
  ∃ S:List ag,mw S∧(∀ s,s∈S↔s∈L)∧names w' e base v S:=by
 have tr:∀ a b c:List UInt8,leB a b=true→leB b c=true→leB a c=true:=fun a b c h1 h2=>by simp only[leB,ZG]at *;exact List.le_trans h1 h2
 have to:∀ a b:List UInt8,(leB a b || leB b a)=true:=fun a b=>by simp only[leB,Zk,ZG];exact List.le_total a b
 have Dx:=List.pairwise_mergeSort tr to ss
 have Dp:=List.mergeSort_perm ss leB
 have hnd:(ss.mergeSort leB).Nodup:=(Dp.trans hp).nodup_iff.2 (asr jO hk)
 refine⟨(ss.mergeSort leB).map fun l=>⟨l.toArray⟩,?_,fun s=> ?_,?_⟩
 ·refine List.pairwise_map.2 ((Dx.and hnd).imp fun {a b} h=> ?_)
  rw[AA]
  have h1:a≤b:=by simpa[leB]using h.1
  show a.toArray.toList<b.toArray.toList
  simp only[List.toList_toArray]
  rcases Decidable.em (a<b)with h2|h2
  ·exact h2
  ·exact absurd (List.le_antisymm h1 (List.not_lt.1 h2)) h.2
 ·rw[YZ]
  constructor
  ·rintro⟨x,hx,rfl⟩
   have cX:=(Dp.trans hp).mem_iff.1 hx
   have hle:=strKeys_le jO hk x cX
   have h3:=(KP jO hk x).1 cX
   have h4:=Jx ⟨x.toArray⟩ (by show x.toArray.size≤_;simpa using hle)
   have h5:has D (ky ⟨x.toArray⟩)=true:=by simpa[ky]using h3
   rw[h5]at h4
   simpa using h4.symm
  ·intro hs
   refine⟨s.data.toList,(Dp.trans hp).mem_iff.2 ((KP jO hk _).2 ?_),by simp⟩
   have:=Jx s (V0 s hs)
   rw[Zn hs]at this
   exact this
 ·refine names.aa0 ?_
  rw[Z5,List.length_mergeSort,Yv]
  have e1:(Value.string ∘ fun l:List UInt8=>(⟨l.toArray⟩:ag))=encStr:=by funext l;simp[encStr]
  rw[e1];exact pK
theorem asq:(Tryz.prog.info? 9).map (fun i=>(i.zero,i.size,i.bytes))=some (some (.string ⟨#[]⟩),1,16):=by kernel_rfl
theorem Rp{w:World}{g o:Nat}{cur:Array Value}{e:TypeId}{f:Nat×Nat}(h:w.heap[g]? =some (.cells cur e f)):w.cell? ⟨g,o,none⟩=cur[o]? :=by simp[World.cell?,h]
theorem aaN{M:Mem}{w':World}{n lo:Nat}{e:TypeId}{v:Value}{L:List ag}(h:names w' e lo v L)(hl:n≤lo):R (lU M n w') (.sl false 1 (L.map ef)) v:=by
 obtain⟨a,cap,rfl,h1,h2,h3⟩:=h
 by_cases hc:cap=0
 ·subst hc
  have:L=[]:=ZO (by omega)
  subst this
  exact .nil false 1 a (by simp)
 ·obtain⟨g,off,cur,rfl,g2,g3,g4,g5⟩:=h3 (by omega)
  have:=R.sl (M:=lU M n w') false 1 (L.map ef) g off cap (fun k=> .string (L.getD k ⟨#[]⟩)) (fun i hi=>by rw[Zm];rfl) (fun k hk=> ?_) (fun i hi j hj=> ?_) (by rw[Z5];exact h1) h2
  ·rw[Z5]at this;exact this
  ·have hk:k<L.length:=by simpa using hk
   unfold lU
   rw[if_pos (by omega),Rp g3,g5 k hk,ZV,Z1 hk];rfl
  ·have hi:i<L.length:=by simpa using hi
   simp only[Zm,ef,Z8,Z2]at hj ⊢
   obtain rfl:j=0:=by omega
   rw[ZV,X8,YT,Z1 hi]
   exact .v _
abbrev EK(l:List ag):AV:= .sl false 1 (l.map ef)
end
end Go.Proofs.YtbihckigennlhaaGreatDoor
