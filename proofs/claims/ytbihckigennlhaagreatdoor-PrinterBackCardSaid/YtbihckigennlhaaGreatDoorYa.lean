/- Sorted names, rows of names (for seats without the catalog). -/
import Derived.Test.YtbihckigennlhaaGreatDoorTz
import Derived.Test.YtbihckigennlhaaGreatDoorZb
import Derived.Test.YtbihckigennlhaaGreatDoorPt
import Derived.Test.YtbihckigennlhaaGreatDoorZf
import Derived.Laws.AppendOwn
import Derived.Laws.Slices
set_option linter.unusedSimpArgs false
set_option linter.unusedVariables false
set_option linter.unusedSectionVars false
set_option maxRecDepth 100000
namespace Go.Tb
open Go.RowKit
def names(w:World)(e:TypeId)(lo:Nat)(v:Value)(L:List ByteArray):Prop:=
 ∃ a cap,v= .slice a L.length cap∧L.length≤cap∧cap≤maxLen∧
  (0<cap→∃ g off cur,a=some ⟨g,off,none⟩∧lo≤g∧w.heap[g]? =some (.cells cur e (0,0))∧off+cap≤cur.size∧∀ j (hj:j<L.length),cur[off+j]? =some (.string L[j]))
theorem names.of_row{w:World}{e:TypeId}{base:Nat}{v:Value}{L:List ByteArray}(h:w.ownsRow base e 1 v L.length (L.map .string)):names w e base v L:=by
 obtain⟨h1,h2⟩:=h
 rcases h2 with⟨rfl,hn⟩|⟨g,cap,cur,rfl,hb,hg,hc,hm,hs,ht⟩
 ·exact⟨none,0,by rw[hn],by omega,by simp,fun h=>absurd h (by omega)⟩
 ·refine⟨_,cap,rfl,hc,hm,fun _=>⟨g,0,cur,rfl,hb,hg,by omega,fun j hj=> ?_⟩⟩
  have e1:=congrArg (fun l=>l[j]?) ht
  simp only[Nat.mul_one,List.getElem?_take,if_pos hj,List.getElem?_map,List.getElem?_eq_getElem hj,Option.map_some]at e1
  rw[Nat.zero_add];simpa using e1
end Go.Tb
namespace Go.Proofs.YtbihckigennlhaaGreatDoor
section
open Go.Sx Go.Proofs
theorem bytesLess_lt:∀ (x y:List UInt8),Op.bytesLess x y=decide (x<y)
 |[],[]=>by simp[Op.bytesLess]
 |_::_,[]=>by simp[Op.bytesLess]
 |[],_::_=>by simp[Op.bytesLess]
 |a::x,b::y=>by
  rw[Op.bytesLess,bytesLess_lt x y]
  simp only[List.cons_lt_cons_iff]
  by_cases h1:a<b<;>by_cases h2:a=b<;>by_cases h3:x<y<;>simp[h1,h2,h3]
theorem toList_data(a:Str):a.toList=a.data.toList:=ByteArray.toList_eq a
theorem sLt_iff(a b:Str):sLt a b=true↔a.data.toList<b.data.toList:=by
 unfold sLt
 rw[bytesLess_lt,toList_data,toList_data,decide_eq_true_eq]
theorem sLt_irrefl(a:Str):sLt a a=false:=by
 rw[← Bool.not_eq_true,sLt_iff];exact List.lt_irrefl _
theorem sLt_trans{a b c:Str}(h:sLt a b=true)(k:sLt b c=true):sLt a c=true:=by
 rw[sLt_iff]at *;exact List.lt_trans h k
theorem sLt_tri{a b:Str}(h:sLt a b=false)(k:sLt b a=false):a=b:=by
 rw[← Bool.not_eq_true,sLt_iff]at h k
 exact str_ext (List.le_antisymm (List.not_lt.1 k) (List.not_lt.1 h))
theorem sLt_asymm{a b:Str}(h:sLt a b=true):sLt b a=false:=by
 rw[← Bool.not_eq_true];intro k
 have:=sLt_trans h k
 rw[sLt_irrefl]at this;cases this
def Srt(l:List Str):Prop:=l.Pairwise fun a b=>sLt a b=true
theorem srt_nil:Srt []:=List.Pairwise.nil
theorem putL_mem{s x:Str}:∀ {l:List Str},x∈putL l s↔x=s∨x∈l
 |[]=>by simp[putL]
 |a::l=>by
  have ih:=putL_mem (s:=s) (x:=x) (l:=l)
  unfold putL
  split
  ·simp only[List.mem_cons,ih];grind
  ·split
   ·rename_i h;subst h;simp
   ·simp
theorem putL_srt{s:Str}:∀ {l:List Str},Srt l→Srt (putL l s)
 |[],_=>by simp[putL,Srt]
 |a::l,h=>by
  have h1:=List.pairwise_cons.1 h
  unfold putL
  split
  ·rename_i hlt
   refine List.pairwise_cons.2 ⟨fun x hx=> ?_,putL_srt h1.2⟩
   rcases putL_mem.1 hx with rfl|hx
   ·exact hlt
   ·exact h1.1 x hx
  ·split
   ·exact h
   ·rename_i h2 h3
    have h4:sLt s a=true:=by
     by_cases e:sLt s a=true
     ·exact e
     ·exact absurd (sLt_tri (by simpa using h2) (by simpa using e)) h3
    refine List.pairwise_cons.2 ⟨fun x hx=> ?_,h⟩
    rcases List.mem_cons.1 hx with rfl|hx
    ·exact h4
    ·exact sLt_trans h4 (h1.1 x hx)
theorem srt_ext:∀ {a b:List Str},Srt a→Srt b→(∀ x,x∈a↔x∈b)→a=b
 |[],[],_,_,_=>rfl
 |[],y::b,_,_,h=>absurd ((h y).2 (by simp)) (by simp)
 |x::a,[],_,_,h=>absurd ((h x).1 (by simp)) (by simp)
 |x::a,y::b,ha,hb,h=>by
  have h1:=List.pairwise_cons.1 ha
  have h2:=List.pairwise_cons.1 hb
  have e:x=y:=by
   rcases List.mem_cons.1 ((h x).1 (by simp))with e|hx
   ·exact e
   ·rcases List.mem_cons.1 ((h y).2 (by simp))with e|hy
    ·exact e.symm
    ·have k1:=h2.1 x hx
     have k2:=h1.1 y hy
     rw[sLt_asymm k1]at k2;cases k2
  subst e
  rw[srt_ext h1.2 h2.2 fun z=> ?_]
  have hz:=h z
  have n1:x∉a:=fun hm=>by have:=h1.1 x hm;rw[sLt_irrefl]at this;cases this
  have n2:x∉b:=fun hm=>by have:=h2.1 x hm;rw[sLt_irrefl]at this;cases this
  constructor
  ·intro hm
   rcases List.mem_cons.1 (hz.1 (by simp[hm]))with e|h'
   ·subst e;exact absurd hm n1
   ·exact h'
  ·intro hm
   rcases List.mem_cons.1 (hz.2 (by simp[hm]))with e|h'
   ·subst e;exact absurd hm n2
   ·exact h'
theorem srt_nodup{l:List Str}(h:Srt l):l.Nodup:=h.imp fun {a b} hab e=>by rw[e,sLt_irrefl]at hab;cases hab
theorem nodup_le{α:Type}[DecidableEq α]:∀ {a b:List α},a.Nodup→(∀ x∈a,x∈b)→a.length≤b.length
 |[],_,_,_=>Nat.zero_le _
 |x::a,b,h,hs=>by
  have h1:=List.nodup_cons.1 h
  have hx:=hs x (by simp)
  have h2:=nodup_le (b:=b.erase x) h1.2 fun y hy=>(List.mem_erase_of_ne (fun e=>h1.1 (by rw[← e];exact hy))).2 (hs y (by simp[hy]))
  rw[List.length_erase_of_mem hx]at h2
  have h3:0<b.length:=List.length_pos_of_mem hx
  simp only[List.length_cons]
  omega
theorem sortL_mem{x:Str}:∀ {l:List Str},x∈sortL l↔x∈l
 |[]=>Iff.rfl
 |s::l=>by rw[sortL,putL_mem,sortL_mem (l:=l),List.mem_cons]
theorem sortL_srt:∀ l:List Str,Srt (sortL l)
 |[]=>srt_nil
 |s::l=>putL_srt (sortL_srt l)
theorem str_beq(a b:ByteArray):(a == b)=decide (a=b):=by
 obtain⟨a⟩:=a
 obtain⟨b⟩:=b
 rw[Bool.eq_iff_iff]
 show(a == b)=true↔_
 simp
end
section
open Go.RowKit Go.Proofs Go.Tb Go.Maps
open Go.Sx (AV Inv Mem RL R Glob Store BlkOK Base)
theorem mem_strKeys{P:Program}{k:TypeId}{R:Value→Option (DataW Unit×List MemPlace)}{w:World}{b n:Nat}{D:DataW Unit}(h:w.ownsMap P k R b n D)(hk:P.underlying k=some .string)(x:List UInt8):x∈strKeys D↔has D (.string x)=true:=by
 obtain⟨es,rfl,hks⟩:=h.keysOf
 rw[has_eq,List.any_eq_true]
 show x∈es.map (fun p=>strOf p.1)↔_
 rw[List.mem_map]
 constructor
 ·rintro⟨p,hp,rfl⟩
  obtain⟨v,hv⟩:=hks p hp
  obtain⟨y,_,hy,_⟩:=Maps.keyOf_str hk hv
  refine⟨p,hp,?_⟩
  rw[hy];exact WideAt.sameKey_self (show WideAt.IsKeyLit (.string y)from trivial)
 ·rintro⟨p,hp,hs⟩
  have:=WideAt.sameKey_eq hs
  exact⟨p,hp,by rw[this];rfl⟩
theorem strKeys_nodup{P:Program}{k:TypeId}{R:Value→Option (DataW Unit×List MemPlace)}{w:World}{b n:Nat}{D:DataW Unit}(h:w.ownsMap P k R b n D)(hk:P.underlying k=some .string):(strKeys D).Nodup:=by
 obtain⟨es,hD,hp⟩:=h.tidy (string_keyed hk)
 obtain⟨es',hD',hks⟩:=h.keysOf
 rw[hD]at hD'
 cases hD'
 subst hD
 show(es.map fun p=>strOf p.1).Nodup
 refine List.pairwise_map.2 (hp.imp_of_mem fun {p q} hp' hq' hne e=>hne ?_)
 obtain⟨v,hv⟩:=hks p hp'
 obtain⟨u,hu⟩:=hks q hq'
 obtain⟨x,_,hx,_⟩:=Maps.keyOf_str hk hv
 obtain⟨y,_,hy,_⟩:=Maps.keyOf_str hk hu
 rw[hx,hy]at e ⊢
 exact congrArg _ e
theorem sorted_names{P:Program}{k:TypeId}{R:Value→Option (DataW Unit×List MemPlace)}{w w':World}{b:Nat}{L:List Str}{base:Nat}{e:TypeId}{v:Value}{D:DataW Unit}{ss:List (List UInt8)}{n:Nat}(hk:P.underlying k=some .string)
  (hown:w.ownsMap P k R b n D) (hsm:∀ s∈L,s.size≤maxLen) (hhas:∀ s:Str,s.size≤maxLen→has D (ky s)=decide (s∈L)) (hp:ss.Perm (strKeys D)) (hrow:w'.ownsRow base e 1 v ss.length ((ss.mergeSort (fun x y=>decide (x≤y))).map encStr)):
  ∃ S:List Str,Srt S∧(∀ s,s∈S↔s∈L)∧names w' e base v S:=by
 have tr:∀ a b c:List UInt8,leB a b=true→leB b c=true→leB a c=true:=fun a b c h1 h2=>by simp only[leB,decide_eq_true_eq]at *;exact List.le_trans h1 h2
 have to:∀ a b:List UInt8,(leB a b || leB b a)=true:=fun a b=>by simp only[leB,Bool.or_eq_true,decide_eq_true_eq];exact List.le_total a b
 have hsort:=List.pairwise_mergeSort tr to ss
 have hperm:=List.mergeSort_perm ss leB
 have hnd:(ss.mergeSort leB).Nodup:=(hperm.trans hp).nodup_iff.2 (strKeys_nodup hown hk)
 refine⟨(ss.mergeSort leB).map fun l=>⟨l.toArray⟩,?_,fun s=> ?_,?_⟩
 ·refine List.pairwise_map.2 ((hsort.and hnd).imp fun {a b} h=> ?_)
  rw[sLt_iff]
  have h1:a≤b:=by simpa[leB]using h.1
  show a.toArray.toList<b.toArray.toList
  simp only[List.toList_toArray]
  rcases Decidable.em (a<b)with h2|h2
  ·exact h2
  ·exact absurd (List.le_antisymm h1 (List.not_lt.1 h2)) h.2
 ·rw[List.mem_map]
  constructor
  ·rintro⟨x,hx,rfl⟩
   have hx2:=(hperm.trans hp).mem_iff.1 hx
   have hle:=strKeys_le hown hk x hx2
   have h3:=(mem_strKeys hown hk x).1 hx2
   have h4:=hhas ⟨x.toArray⟩ (by show x.toArray.size≤_;simpa using hle)
   have h5:has D (ky ⟨x.toArray⟩)=true:=by simpa[ky]using h3
   rw[h5]at h4
   simpa using h4.symm
  ·intro hs
   refine⟨s.data.toList,(hperm.trans hp).mem_iff.2 ((mem_strKeys hown hk _).2 ?_),by simp⟩
   have:=hhas s (hsm s hs)
   rw[decide_eq_true hs]at this
   exact this
 ·refine names.of_row ?_
  rw[List.length_map,List.length_mergeSort,List.map_map]
  have e1:(Value.string ∘ fun l:List UInt8=>(⟨l.toArray⟩:Str))=encStr:=by funext l;simp[encStr]
  rw[e1];exact hrow
theorem strInfo:(Tryz.prog.info? 9).map (fun i=>(i.zero,i.size,i.bytes))=some (some (.string ⟨#[]⟩),1,16):=by kernel_rfl
theorem cell_at'{w:World}{g o:Nat}{cur:Array Value}{e:TypeId}{f:Nat×Nat}(h:w.heap[g]? =some (.cells cur e f)):w.cell? ⟨g,o,none⟩=cur[o]? :=by simp[World.cell?,h]
theorem names_R{M:Mem}{w':World}{n lo:Nat}{e:TypeId}{v:Value}{L:List Str}(h:names w' e lo v L)(hl:n≤lo):R (memN M n w') (.sl false 1 (L.map strRow)) v:=by
 obtain⟨a,cap,rfl,h1,h2,h3⟩:=h
 by_cases hc:cap=0
 ·subst hc
  have:L=[]:=List.eq_nil_of_length_eq_zero (by omega)
  subst this
  exact .nil false 1 a (by simp)
 ·obtain⟨g,off,cur,rfl,g2,g3,g4,g5⟩:=h3 (by omega)
  have:=R.sl (M:=memN M n w') false 1 (L.map strRow) g off cap (fun k=> .string (L.getD k ⟨#[]⟩)) (fun i hi=>by rw[List.getElem_map];rfl) (fun k hk=> ?_) (fun i hi j hj=> ?_) (by rw[List.length_map];exact h1) h2
  ·rw[List.length_map]at this;exact this
  ·have hk:k<L.length:=by simpa using hk
   unfold memN
   rw[if_pos (by omega),cell_at' g3,g5 k hk,List.getD_eq_getElem?_getD,List.getElem?_eq_getElem hk];rfl
  ·have hi:i<L.length:=by simpa using hi
   simp only[List.getElem_map,strRow,List.length_cons,List.length_nil]at hj ⊢
   obtain rfl:j=0:=by omega
   rw[List.getD_eq_getElem?_getD,Nat.mul_one,Nat.add_zero,List.getElem?_eq_getElem hi]
   exact .v _
abbrev strsV(l:List Str):AV:= .sl false 1 (l.map strRow)
end
end Go.Proofs.YtbihckigennlhaaGreatDoor
