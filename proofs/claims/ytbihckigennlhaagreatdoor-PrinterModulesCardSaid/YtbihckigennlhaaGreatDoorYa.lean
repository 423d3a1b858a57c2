/- Sorted names, rows of names (for seats without the catalog). -/
import Derived.Test.YtbihckigennlhaaGreatDoorTz
import Derived.Test.YtbihckigennlhaaGreatDoorZb
import Derived.Test.YtbihckigennlhaaGreatDoorPt
import Derived.Test.YtbihckigennlhaaGreatDoorZf
import Derived.Laws.AppendOwn
import Derived.Laws.Slices
set_option linter.unusedSimpArgs false
set_option linter.unusedVariables false
set_option linter.unusedSectionVars false
set_option maxRecDepth 100000
namespace Go.Tb
open Go.RowKit
def names(w:World)(e:TypeId)(lo:Nat)(v:Value)(L:List ByteArray):Prop:=
 ∃ a cap,v= .slice a L.length cap∧L.length≤cap∧cap≤maxLen∧
  (0<cap→∃ g off cur,a=some ⟨g,off,none⟩∧lo≤g∧w.heap[g]? =some (.cells cur e (0,0))∧off+cap≤cur.size∧∀ j (hj:j<L.length),cur[off+j]? =some (.string L[j]))
theorem names.ac9{w:World}{e:TypeId}{base:Nat}{v:Value}{L:List ByteArray}(h:w.ownsRow base e 1 v L.length (L.map .string)):names w e base v L:=by
 obtain⟨h1,h2⟩:=h
 rcases h2 with⟨rfl,hn⟩|⟨g,cap,cur,rfl,hb,hg,hc,hm,hs,ht⟩
 ·exact⟨none,0,by rw[hn],by omega,by simp,fun h=>absurd h (by omega)⟩
 ·refine⟨_,cap,rfl,hc,hm,fun _=>⟨g,0,cur,rfl,hb,hg,by omega,fun j hj=> ?_⟩⟩
  have e1:=congrArg (fun l=>l[j]?) ht
  simp only[XU,List.getElem?_take,if_pos hj,X8,Z6 hj,Zu]at e1
  rw[Zh];simpa using e1
end Go.Tb
namespace Go.Proofs.YtbihckigennlhaaGreatDoor
section
open Go.Sx Go.Proofs
theorem IX:∀ (x y:List UInt8),Op.bytesLess x y=decide (x<y)
 |[],[]=>by simp[Op.bytesLess]
 |_::_,[]=>by simp[Op.bytesLess]
 |[],_::_=>by simp[Op.bytesLess]
 |a::x,b::y=>by
  rw[Op.bytesLess,IX x y]
  simp only[List.cons_lt_cons_iff]
  by_cases h1:a<b<;>by_cases h2:a=b<;>by_cases h3:x<y<;>simp[h1,h2,h3]
theorem toList_data(a:af):a.toList=a.data.toList:=ByteArray.toList_eq a
theorem B4(a b:af):iL a b=true↔a.data.toList<b.data.toList:=by
 unfold iL
 rw[IX,toList_data,toList_data,ZB]
theorem B5(a:af):iL a a=false:=by
 rw[← Yt,B4];exact List.lt_irrefl _
theorem Gm{a b c:af}(h:iL a b=true)(k:iL b c=true):iL a c=true:=by
 rw[B4]at *;exact List.lt_trans h k
theorem OC{a b:af}(h:iL a b=false)(k:iL b a=false):a=b:=by
 rw[← Yt,B4]at h k
 exact pQ (List.le_antisymm (List.not_lt.1 k) (List.not_lt.1 h))
theorem axt{a b:af}(h:iL a b=true):iL b a=false:=by
 rw[← Yt];intro k
 have:=Gm h k
 rw[B5]at this;cases this
def nu(l:List af):Prop:=l.Pairwise fun a b=>iL a b=true
theorem OW:nu []:=List.Pairwise.nil
theorem F8{s x:af}:∀ {l:List af},x∈ri l s↔x=s∨x∈l
 |[]=>by simp[ri]
 |a::l=>by
  have ih:=F8 (s:=s) (x:=x) (l:=l)
  unfold ri
  split
  ·simp only[ZV,ih];grind
  ·split
   ·rename_i h;subst h;simp
   ·simp
theorem NZ{s:af}:∀ {l:List af},nu l→nu (ri l s)
 |[],_=>by simp[ri,nu]
 |a::l,h=>by
  have h1:=Yd.1 h
  unfold ri
  split
  ·rename_i aH
   refine Yd.2 ⟨fun x hx=> ?_,NZ h1.2⟩
   rcases F8.1 hx with rfl|hx
   ·exact aH
   ·exact h1.1 x hx
  ·split
   ·exact h
   ·rename_i h2 h3
    have h4:iL s a=true:=by
     by_cases e:iL s a=true
     ·exact e
     ·exact absurd (OC (by simpa using h2) (by simpa using e)) h3
    refine Yd.2 ⟨fun x hx=> ?_,h⟩
    rcases ZV.1 hx with rfl|hx
    ·exact h4
    ·exact Gm h4 (h1.1 x hx)
theorem Ca:∀ {a b:List af},nu a→nu b→(∀ x,x∈a↔x∈b)→a=b
 |[],[],_,_,_=>rfl
 |[],y::b,_,_,h=>absurd ((h y).2 (by simp)) (by simp)
 |x::a,[],_,_,h=>absurd ((h x).1 (by simp)) (by simp)
 |x::a,y::b,ha,hb,h=>by
  have h1:=Yd.1 ha
  have h2:=Yd.1 hb
  have e:x=y:=by
   rcases ZV.1 ((h x).1 (by simp))with e|hx
   ·exact e
   ·rcases ZV.1 ((h y).2 (by simp))with e|hy
    ·exact e.symm
    ·have k1:=h2.1 x hx
     have k2:=h1.1 y hy
     rw[axt k1]at k2;cases k2
  subst e
  rw[Ca h1.2 h2.2 fun z=> ?_]
  have hz:=h z
  have n1:x∉a:=fun hm=>by have:=h1.1 x hm;rw[B5]at this;cases this
  have n2:x∉b:=fun hm=>by have:=h2.1 x hm;rw[B5]at this;cases this
  constructor
  ·intro hm
   rcases ZV.1 (hz.1 (by simp[hm]))with e|h'
   ·subst e;exact absurd hm n1
   ·exact h'
  ·intro hm
   rcases ZV.1 (hz.2 (by simp[hm]))with e|h'
   ·subst e;exact absurd hm n2
   ·exact h'
theorem OX{l:List af}(h:nu l):l.Nodup:=h.imp fun {a b} eo e=>by rw[e,B5]at eo;cases eo
theorem Nb{α:Type}[DecidableEq α]:∀ {a b:List α},a.Nodup→(∀ x∈a,x∈b)→a.length≤b.length
 |[],_,_,_=>ZK _
 |x::a,b,h,hs=>by
  have h1:=YF.1 h
  have hx:=hs x (by simp)
  have h2:=Nb (b:=b.erase x) h1.2 fun y hy=>(List.mem_erase_of_ne (fun e=>h1.1 (by rw[← e];exact hy))).2 (hs y (by simp[hy]))
  rw[List.length_erase_of_mem hx]at h2
  have h3:0<b.length:=List.length_pos_of_mem hx
  simp only[Z9]
  omega
theorem wx{x:af}:∀ {l:List af},x∈jm l↔x∈l
 |[]=>Iff.rfl
 |s::l=>by rw[jm,F8,wx (l:=l),ZV]
theorem wy:∀ l:List af,nu (jm l)
 |[]=>OW
 |s::l=>NZ (wy l)
theorem O1(a b:ByteArray):(a == b)=decide (a=b):=by
 obtain⟨a⟩:=a
 obtain⟨b⟩:=b
 rw[YD]
 show(a == b)=true↔_
 simp
end
section
open Go.RowKit Go.Proofs Go.Tb Go.Maps
open Go.Sx (AV Inv Mem RL R Glob Store BlkOK Base)
theorem MY{P:Program}{k:TypeId}{R:Value→Option (DataW Unit×List MemPlace)}{w:World}{b n:Nat}{D:DataW Unit}(h:w.ownsMap P k R b n D)(hk:P.underlying k=some .string)(x:List UInt8):x∈strKeys D↔has D (.string x)=true:=by
 obtain⟨es,rfl,vm⟩:=h.keysOf
 rw[has_eq,Yg]
 show x∈es.map (fun p=>strOf p.1)↔_
 rw[YS]
 constructor
 ·rintro⟨p,hp,rfl⟩
  obtain⟨v,hv⟩:=vm p hp
  obtain⟨y,_,hy,_⟩:=Maps.keyOf_str hk hv
  refine⟨p,hp,?_⟩
  rw[hy];exact WideAt.sameKey_self (show WideAt.IsKeyLit (.string y)from trivial)
 ·rintro⟨p,hp,hs⟩
  have:=WideAt.sameKey_eq hs
  exact⟨p,hp,by rw[this];rfl⟩
theorem ayj{P:Program}{k:TypeId}{R:Value→Option (DataW Unit×List MemPlace)}{w:World}{b n:Nat}{D:DataW Unit}(h:w.ownsMap P k R b n D)(hk:P.underlying k=some .string):(strKeys D).Nodup:=by
 obtain⟨es,hD,hp⟩:=h.tidy (string_keyed hk)
 obtain⟨es',KH,vm⟩:=h.keysOf
 rw[hD]at KH
 cases KH
 subst hD
 show(es.map fun p=>strOf p.1).Nodup
 refine List.pairwise_map.2 (hp.imp_of_mem fun {p q} qI sY aQ e=>aQ ?_)
 obtain⟨v,hv⟩:=vm p qI
 obtain⟨u,hu⟩:=vm q sY
 obtain⟨x,_,hx,_⟩:=Maps.keyOf_str hk hv
 obtain⟨y,_,hy,_⟩:=Maps.keyOf_str hk hu
 rw[hx,hy]at e ⊢
 exact congrArg _ e
theorem ax6{P:Program}{k:TypeId}{R:Value→Option (DataW Unit×List MemPlace)}{w w':World}{b:Nat}{L:List af}{base:Nat}{e:TypeId}{v:Value}{D:DataW Unit}{ss:List (List UInt8)}{n:Nat}(hk:P.underlying k=some .string)
  (kC:w.ownsMap P k R b n D) (hsm:∀ s∈L,s.size≤maxLen) (Le:∀ s:af,s.size≤maxLen→has D (ky s)=decide (s∈L)) (hp:ss.Perm (strKeys D)) (qL:w'.ownsRow base e 1 v ss.length ((ss.mergeSort (fun x y=>decide (x≤y))).map encStr)):
  ∃ S:List af,nu S∧(∀ s,s∈S↔s∈L)∧names w' e base v S:=by
 have tr:∀ a b c:List UInt8,leB a b=true→leB b c=true→leB a c=true:=fun a b c h1 h2=>by simp only[leB,ZB]at *;exact List.le_trans h1 h2
 have to:∀ a b:List UInt8,(leB a b || leB b a)=true:=fun a b=>by simp only[leB,Zl,ZB];exact List.le_total a b
 have E2:=List.pairwise_mergeSort tr to ss
 have EU:=List.mergeSort_perm ss leB
 have hnd:(ss.mergeSort leB).Nodup:=(EU.trans hp).nodup_iff.2 (ayj kC hk)
 refine⟨(ss.mergeSort leB).map fun l=>⟨l.toArray⟩,?_,fun s=> ?_,?_⟩
 ·refine List.pairwise_map.2 ((E2.and hnd).imp fun {a b} h=> ?_)
  rw[B4]
  have h1:a≤b:=by simpa[leB]using h.1
  show a.toArray.toList<b.toArray.toList
  simp only[List.toList_toArray]
  rcases Decidable.em (a<b)with h2|h2
  ·exact h2
  ·exact absurd (List.le_antisymm h1 (List.not_lt.1 h2)) h.2
 ·rw[YS]
  constructor
  ·rintro⟨x,hx,rfl⟩
   have dm:=(EU.trans hp).mem_iff.1 hx
   have hle:=strKeys_le kC hk x dm
   have h3:=(MY kC hk x).1 dm
   have h4:=Le ⟨x.toArray⟩ (by show x.toArray.size≤_;simpa using hle)
   have h5:has D (ky ⟨x.toArray⟩)=true:=by simpa[ky]using h3
   rw[h5]at h4
   simpa using h4.symm
  ·intro hs
   refine⟨s.data.toList,(EU.trans hp).mem_iff.2 ((MY kC hk _).2 ?_),by simp⟩
   have:=Le s (hsm s hs)
   rw[Zi hs]at this
   exact this
 ·refine names.ac9 ?_
  rw[Z3,List.length_mergeSort,Yw]
  have e1:(Value.string ∘ fun l:List UInt8=>(⟨l.toArray⟩:af))=encStr:=by funext l;simp[encStr]
  rw[e1];exact qL
theorem ayi:(Tryz.prog.info? 9).map (fun i=>(i.zero,i.size,i.bytes))=some (some (.string ⟨#[]⟩),1,16):=by kernel_rfl
theorem Ue{w:World}{g o:Nat}{cur:Array Value}{e:TypeId}{f:Nat×Nat}(h:w.heap[g]? =some (.cells cur e f)):w.cell? ⟨g,o,none⟩=cur[o]? :=by simp[World.cell?,h]
theorem acT{M:Mem}{w':World}{n lo:Nat}{e:TypeId}{v:Value}{L:List af}(h:names w' e lo v L)(hl:n≤lo):R (mO M n w') (.sl false 1 (L.map dL)) v:=by
 obtain⟨a,cap,rfl,h1,h2,h3⟩:=h
 by_cases hc:cap=0
 ·subst hc
  have:L=[]:=ZO (by omega)
  subst this
  exact .nil false 1 a (by simp)
 ·obtain⟨g,off,cur,rfl,g2,g3,g4,g5⟩:=h3 (by omega)
  have:=R.sl (M:=mO M n w') false 1 (L.map dL) g off cap (fun k=> .string (L.getD k ⟨#[]⟩)) (fun i hi=>by rw[Zg];rfl) (fun k hk=> ?_) (fun i hi j hj=> ?_) (by rw[Z3];exact h1) h2
  ·rw[Z3]at this;exact this
  ·have hk:k<L.length:=by simpa using hk
   unfold mO
   rw[if_pos (by omega),Ue g3,g5 k hk,Z1,Z6 hk];rfl
  ·have hi:i<L.length:=by simpa using hi
   simp only[Zg,dL,Z9,Z4]at hj ⊢
   obtain rfl:j=0:=by omega
   rw[Z1,XU,YN,Z6 hi]
   exact .v _
abbrev Gx(l:List af):AV:= .sl false 1 (l.map dL)
end
end Go.Proofs.YtbihckigennlhaaGreatDoor
