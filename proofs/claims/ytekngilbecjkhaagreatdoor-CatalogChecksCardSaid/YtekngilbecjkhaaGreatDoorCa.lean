/- Catalogs: names, sorted lists of names, what is directly used. -/
import Derived.Test.YtekngilbecjkhaaGreatDoorPa
set_option linter.unusedSimpArgs false
set_option linter.unusedVariables false
set_option maxRecDepth 100000
namespace Go.Proofs.YtekngilbecjkhaaGreatDoor
open Go.Sx Go.Proofs
structure Cat where
 tables:List Tab
 features:List Fea
 drafts:List Fea
 past:List Fea
deriving Inhabited
def Cat.cells(c:Cat):List AV:=[.sl false 4 (c.tables.map Tab.cells),.sl false 18 (c.features.map Fea.cells),.sl false 18 (c.drafts.map Fea.cells),.sl false 18 (c.past.map Fea.cells)]
def sLt(a b:Str):Bool:=Op.bytesLess a.toList b.toList
theorem bytesLess_lt:∀ (x y:List UInt8),Op.bytesLess x y=decide (x<y)
 |[],[]=>by simp[Op.bytesLess]
 |_::_,[]=>by simp[Op.bytesLess]
 |[],_::_=>by simp[Op.bytesLess]
 |a::x,b::y=>by
  rw[Op.bytesLess,bytesLess_lt x y]
  simp only[List.cons_lt_cons_iff]
  by_cases h1:a<b<;>by_cases h2:a=b<;>by_cases h3:x<y<;>simp[h1,h2,h3]
theorem toList_data(a:Str):a.toList=a.data.toList:=ByteArray.toList_eq a
theorem sLt_iff(a b:Str):sLt a b=true↔a.data.toList<b.data.toList:=by
 unfold sLt
 rw[bytesLess_lt,toList_data,toList_data,decide_eq_true_eq]
theorem sLt_irrefl(a:Str):sLt a a=false:=by
 rw[← Bool.not_eq_true,sLt_iff];exact List.lt_irrefl _
theorem sLt_trans{a b c:Str}(h:sLt a b=true)(k:sLt b c=true):sLt a c=true:=by
 rw[sLt_iff]at *;exact List.lt_trans h k
theorem sLt_tri{a b:Str}(h:sLt a b=false)(k:sLt b a=false):a=b:=by
 rw[← Bool.not_eq_true,sLt_iff]at h k
 exact str_ext (List.le_antisymm (List.not_lt.1 k) (List.not_lt.1 h))
theorem sLt_asymm{a b:Str}(h:sLt a b=true):sLt b a=false:=by
 rw[← Bool.not_eq_true];intro k
 have:=sLt_trans h k
 rw[sLt_irrefl]at this;cases this
def Srt(l:List Str):Prop:=l.Pairwise fun a b=>sLt a b=true
def putL:List Str→Str→List Str
 |[],s=>[s]
 |a::l,s=>if sLt a s=true then a::putL l s else if a=s then a::l else s::a::l
theorem putL_mem{s x:Str}:∀ {l:List Str},x∈putL l s↔x=s∨x∈l
 |[]=>by simp[putL]
 |a::l=>by
  have ih:=putL_mem (s:=s) (x:=x) (l:=l)
  unfold putL
  split
  ·simp only[List.mem_cons,ih];grind
  ·split
   ·rename_i h;subst h;simp
   ·simp
theorem putL_srt{s:Str}:∀ {l:List Str},Srt l→Srt (putL l s)
 |[],_=>by simp[putL,Srt]
 |a::l,h=>by
  have h1:=List.pairwise_cons.1 h
  unfold putL
  split
  ·rename_i hlt
   refine List.pairwise_cons.2 ⟨fun x hx=> ?_,putL_srt h1.2⟩
   rcases putL_mem.1 hx with rfl|hx
   ·exact hlt
   ·exact h1.1 x hx
  ·split
   ·exact h
   ·rename_i h2 h3
    have h4:sLt s a=true:=by
     by_cases e:sLt s a=true
     ·exact e
     ·exact absurd (sLt_tri (by simpa using h2) (by simpa using e)) h3
    refine List.pairwise_cons.2 ⟨fun x hx=> ?_,h⟩
    rcases List.mem_cons.1 hx with rfl|hx
    ·exact h4
    ·exact sLt_trans h4 (h1.1 x hx)
theorem srt_ext:∀ {a b:List Str},Srt a→Srt b→(∀ x,x∈a↔x∈b)→a=b
 |[],[],_,_,_=>rfl
 |[],y::b,_,_,h=>absurd ((h y).2 (by simp)) (by simp)
 |x::a,[],_,_,h=>absurd ((h x).1 (by simp)) (by simp)
 |x::a,y::b,ha,hb,h=>by
  have h1:=List.pairwise_cons.1 ha
  have h2:=List.pairwise_cons.1 hb
  have e:x=y:=by
   rcases List.mem_cons.1 ((h x).1 (by simp))with e|hx
   ·exact e
   ·rcases List.mem_cons.1 ((h y).2 (by simp))with e|hy
    ·exact e.symm
    ·have k1:=h2.1 x hx
     have k2:=h1.1 y hy
     rw[sLt_asymm k1]at k2;cases k2
  subst e
  rw[srt_ext h1.2 h2.2 fun z=> ?_]
  have hz:=h z
  have n1:x∉a:=fun hm=>by have:=h1.1 x hm;rw[sLt_irrefl]at this;cases this
  have n2:x∉b:=fun hm=>by have:=h2.1 x hm;rw[sLt_irrefl]at this;cases this
  constructor
  ·intro hm
   rcases List.mem_cons.1 (hz.1 (by simp[hm]))with e|h'
   ·subst e;exact absurd hm n1
   ·exact h'
  ·intro hm
   rcases List.mem_cons.1 (hz.2 (by simp[hm]))with e|h'
   ·subst e;exact absurd hm n2
   ·exact h'
def putAt:List Str→Str→Nat
 |[],_=>0
 |a::l,s=>if sLt a s=true then putAt l s+1 else 0
theorem putL_at:∀ (l:List Str) (s:Str),putL l s=if putAt l s<l.length∧l.getD (putAt l s) default=s then l else l.take (putAt l s)++[s]++l.drop (putAt l s)
 |[],s=>by simp[putL,putAt]
 |a::l,s=>by
  unfold putL putAt
  have ih:=putL_at l s
  split
  ·rw[ih]
   simp only[List.length_cons,List.getD_cons_succ,List.take_succ_cons,List.drop_succ_cons,Nat.add_lt_add_iff_right]
   split<;>simp
  ·simp only[List.length_cons,List.getD_cons_zero,List.take_zero,List.drop_zero]
   by_cases h:a=s
   ·rw[if_pos h,if_pos ⟨by omega,h⟩]
   ·rw[if_neg h,if_neg (fun h'=>h h'.2)];rfl
mutual
def dirL:Ex→List Str×List Str→List Str×List Str
 | .mk k o n t v u p w ks,a=>dirLL ks (if k=3∨k=4 then(putL a.1 n,a.2)else if k=5 then(a.1,putL a.2 t)else a)
def dirLL:List Ex→List Str×List Str→List Str×List Str
 |[],a=>a
 |x::l,a=>dirLL l (dirL x a)
end
mutual
def Ex.feats:Ex→List Str
 | .mk k o n t v u p w ks=>(if k=3∨k=4 then[n]else[])++Ex.featsL ks
def Ex.featsL:List Ex→List Str
 |[]=>[]
 |x::l=>x.feats++Ex.featsL l
end
mutual
def Ex.tabs:Ex→List Str
 | .mk k o n t v u p w ks=>(if k=5 then[t]else[])++Ex.tabsL ks
def Ex.tabsL:List Ex→List Str
 |[]=>[]
 |x::l=>x.tabs++Ex.tabsL l
end
mutual
theorem dirL_mem:∀ (x:Ex) (a:List Str×List Str),(∀ s,s∈(dirL x a).1↔s∈x.feats∨s∈a.1)∧(∀ s,s∈(dirL x a).2↔s∈x.tabs∨s∈a.2)
 | .mk k o n t v u p w ks,a=>by
  have ih:=dirLL_mem ks (if k=3∨k=4 then(putL a.1 n,a.2)else if k=5 then(a.1,putL a.2 t)else a)
  rw[dirL,Ex.feats,Ex.tabs]
  refine⟨fun s=> ?_,fun s=> ?_⟩
  ·rw[ih.1 s,List.mem_append]
   by_cases h:k=3∨k=4
   ·simp only[if_pos h,putL_mem,List.mem_singleton];grind
   ·by_cases h5:k=5
    ·simp only[if_neg h,if_pos h5];simp
    ·simp only[if_neg h,if_neg h5];simp
  ·rw[ih.2 s,List.mem_append]
   by_cases h:k=3∨k=4
   ·have h5:¬k=5:=by omega
    simp only[if_pos h,if_neg h5];simp
   ·by_cases h5:k=5
    ·simp only[if_neg h,if_pos h5,putL_mem,List.mem_singleton];grind
    ·simp only[if_neg h,if_neg h5];simp
theorem dirLL_mem:∀ (l:List Ex) (a:List Str×List Str),(∀ s,s∈(dirLL l a).1↔s∈Ex.featsL l∨s∈a.1)∧(∀ s,s∈(dirLL l a).2↔s∈Ex.tabsL l∨s∈a.2)
 |[],a=>by simp[dirLL,Ex.featsL,Ex.tabsL]
 |x::l,a=>by
  have h1:=dirL_mem x a
  have h2:=dirLL_mem l (dirL x a)
  rw[dirLL,Ex.featsL,Ex.tabsL]
  refine⟨fun s=> ?_,fun s=> ?_⟩
  ·rw[h2.1 s,h1.1 s,List.mem_append];grind
  ·rw[h2.2 s,h1.2 s,List.mem_append];grind
end
mutual
theorem dirL_srt:∀ (x:Ex) (a:List Str×List Str),Srt a.1→Srt a.2→Srt (dirL x a).1∧Srt (dirL x a).2
 | .mk k o n t v u p w ks,a,h1,h2=>by
  rw[dirL]
  refine dirLL_srt ks _ ?_ ?_
  ·split
   ·exact putL_srt h1
   ·split<;>exact h1
  ·split
   ·exact h2
   ·split
    ·exact putL_srt h2
    ·exact h2
theorem dirLL_srt:∀ (l:List Ex) (a:List Str×List Str),Srt a.1→Srt a.2→Srt (dirLL l a).1∧Srt (dirLL l a).2
 |[],a,h1,h2=>by rw[dirLL];exact⟨h1,h2⟩
 |x::l,a,h1,h2=>by
  rw[dirLL]
  have h:=dirL_srt x a h1 h2
  exact dirLL_srt l _ h.1 h.2
end
def findF(l:List Fea)(n:Str):Option Fea:=l.find? fun f=>decide (f.name=n)
theorem findF_mem{l:List Fea}{n:Str}{f:Fea}(h:findF l n=some f):f∈l∧f.name=n:=by
 unfold findF at h
 exact⟨List.mem_of_find?_eq_some h,by simpa using List.find?_some h⟩
inductive Reach(fs:List Fea)(s:List Str):Str→Prop
 |base {n:Str} (h:n∈s):Reach fs s n
 |step {n m:Str} {f:Fea} (h:Reach fs s n) (hf:findF fs n=some f) (hm:m∈f.body.feats):Reach fs s m
def ReachT(fs:List Fea)(s t:List Str)(x:Str):Prop:=x∈t∨∃ n f,Reach fs s n∧findF fs n=some f∧x∈f.body.tabs
def Closed(fs:List Fea)(F T:List Str):Prop:=∀ n∈F,∀ f,findF fs n=some f→(∀ m∈f.body.feats,m∈F)∧∀ x∈f.body.tabs,x∈T
theorem reach_of_closed{fs:List Fea}{s t F T:List Str}(h1:∀ n∈s,n∈F)(h2:∀ x∈t,x∈T)(h3:∀ n∈F,Reach fs s n)(h4:∀ x∈T,ReachT fs s t x)(hc:Closed fs F T):
  (∀ n,n∈F↔Reach fs s n)∧∀ x,x∈T↔ReachT fs s t x:=by
 have hF:∀ n,Reach fs s n→n∈F:=fun n h=>by
  induction h with
  |base h=>exact h1 _ h
  |step _ hf hm ih=>exact(hc _ ih _ hf).1 _ hm
 refine⟨fun n=>⟨h3 n,hF n⟩,fun x=>⟨h4 x,fun h=> ?_⟩⟩
 rcases h with h|⟨n,f,hn,hf,hx⟩
 ·exact h2 x h
 ·exact(hc n (hF n hn) f hf).2 x hx
open Classical in
noncomputable def srtOf(p:Str→Prop):List Str:=if h:∃ l,Srt l∧∀ x,x∈l↔p x then h.choose else[]
theorem srtOf_eq{p:Str→Prop}{l:List Str}(h1:Srt l)(h2:∀ x,x∈l↔p x):srtOf p=l:=by
 have h:∃ l,Srt l∧∀ x,x∈l↔p x:=⟨l,h1,h2⟩
 unfold srtOf
 rw[dif_pos h]
 exact srt_ext h.choose_spec.1 h1 fun x=>(h.choose_spec.2 x).trans (h2 x).symm
noncomputable def usesF(fs:List Fea)(x:Ex):List Str:=srtOf (Reach fs x.feats)
noncomputable def usesT(fs:List Fea)(x:Ex):List Str:=srtOf (ReachT fs x.feats x.tabs)
theorem srt_nodup{l:List Str}(h:Srt l):l.Nodup:=h.imp fun {a b} hab e=>by rw[e,sLt_irrefl]at hab;cases hab
theorem nodup_le{α:Type}[DecidableEq α]:∀ {a b:List α},a.Nodup→(∀ x∈a,x∈b)→a.length≤b.length
 |[],_,_,_=>Nat.zero_le _
 |x::a,b,h,hs=>by
  have h1:=List.nodup_cons.1 h
  have hx:=hs x (by simp)
  have h2:=nodup_le (b:=b.erase x) h1.2 fun y hy=>(List.mem_erase_of_ne (fun e=>h1.1 (by rw[← e];exact hy))).2 (hs y (by simp[hy]))
  rw[List.length_erase_of_mem hx]at h2
  have h3:0<b.length:=List.length_pos_of_mem hx
  simp only[List.length_cons]
  omega
theorem nodup_sub{α:Type}[DecidableEq α]{a b:List α}(h:a.Nodup)(hs:∀ x∈a,x∈b)(hl:b.length≤a.length):∀ x∈b,x∈a:=fun x hx=>by
 by_cases hm:x∈a
 ·exact hm
 ·have h2:=nodup_le (a:=x::a) (b:=b) (List.nodup_cons.2 ⟨hm,h⟩) fun y hy=>by
   rcases List.mem_cons.1 hy with rfl|hy
   ·exact hx
   ·exact hs y hy
  simp only[List.length_cons]at h2
  omega
theorem srt_len{a b:List Str}(ha:Srt a)(hb:Srt b)(hs:∀ x∈a,x∈b)(hl:b.length≤a.length):a=b:=
 srt_ext ha hb fun x=>⟨hs x,nodup_sub (srt_nodup ha) hs hl x⟩
def univ(fs:List Fea)(s:List Str):List Str:=s++fs.flatMap fun f=>f.body.feats
theorem reach_univ{fs:List Fea}{s:List Str}{n:Str}(h:Reach fs s n):n∈univ fs s:=by
 cases h with
 |base h=>exact List.mem_append_left _ h
 |step _ hf hm=>exact List.mem_append_right _ (List.mem_flatMap.2 ⟨_,(findF_mem hf).1,hm⟩)
end Go.Proofs.YtekngilbecjkhaaGreatDoor
