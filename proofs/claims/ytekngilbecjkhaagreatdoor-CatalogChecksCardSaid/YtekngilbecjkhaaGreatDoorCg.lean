/- catalog.Uses: the closure of what is used, collected name by name. -/
import Derived.Test.YtekngilbecjkhaaGreatDoorCf
import Derived.Test.YtekngilbecjkhaaGreatDoorCe
set_option linter.unusedVariables false
set_option linter.unusedSimpArgs false
namespace Go.Proofs.YtekngilbecjkhaaGreatDoor
open Go.RowKit Go.Proofs Go.Tb
open Go.Sx (AV Inv Mem RL R M0 Glob)
theorem c_inv{M:Mem}{w W:World}(hI:Inv Tryz.prog M w [] w)(hb:Below w.heap.size w W):Inv Tryz.prog M W [] W:=inv_keep hI (Keep.of_below hb []) (noCells_nil w)
theorem c_less{B B':Nat}{a c:World}(h:Below B a c)(hB:B'≤B):Below B' a c:=⟨h.os,h.tape,h.output,h.size,fun k hk=>h.block k (Nat.lt_of_lt_of_le hk hB)⟩
theorem inv_here{M':Mem}{W W':World}(hI:Inv Tryz.prog M' W [] W'):Inv Tryz.prog M' W' [] W':=by
 refine⟨rfl,rfl,rfl,Nat.le_refl _,fun _ _=>rfl,hI.imm,(fun e he=>(by cases he)),List.nodup_nil,hI.gl,?_⟩
 exact GW.keep hI.gw hI.size fun k cs t f h=>hI.old k (Array.getElem?_eq_some_iff.1 h).1
theorem feature_call(c:Cat){M:Mem}{W:World}(hI:Inv Tryz.prog M W [] W){Cc:Array Value}(hR:RL M c.cells Cc.toList)(n:Str):
  Calls Tryz.prog 24 #[.agg Cc,.string n] W fun e W'=>∃ (M':Mem) (C:Array Value) (b:Bool),e= .returned (.tuple #[.agg C,.bool b])∧Inv Tryz.prog M' W' [] W'∧Below W.heap.size W W'∧C.size=18∧C.all (·.oneCell')=true∧
   ((b=false∧findF c.features n=none)∨∃ f,b=true∧findF c.features n=some f∧RL M' f.cells C.toList):=by
 have key:∀ (l:List AV) (b:Bool),Sx.Pure Tryz.prog 24 [.agg c.cells,sv n] (.tup [.agg l,.v (.bool b)])→Calls Tryz.prog 24 #[.agg Cc,.string n] W fun e W'=>∃ (M':Mem) (C:Array Value),e= .returned (.tuple #[.agg C,.bool b])∧Inv Tryz.prog M' W' [] W'∧Below W.heap.size W W'∧RL M' l C.toList:=fun l b h=>by
  have hR':RL M [.agg c.cells,sv n] [.agg Cc,.string n]:=RL.cons (by have:=R.mk_agg hR;rwa [Array.toArray_toList]at this) (RL.cons (.v _) RL.nil)
  refine(h.sp [] M W W _ hI hR').mono fun e w' ⟨M',r,σ',_,hI',hr,hq⟩=> ?_
  obtain⟨rfl,rfl⟩:=hq
  cases e<;>simp only[Sx.RRes]at hr
  cases hr with
  |tup _ cs hl h1=>
   match cs,hl,h1 with
   |[a,b'],_,h1=>
    have ha:=h1 0 (by simp) (by simp)
    have hb:=(h1 1 (by simp) (by simp)).of_v
    simp only[List.getElem_cons_zero,List.getElem_cons_succ]at ha hb
    subst hb
    obtain⟨cs',rfl,h2⟩:=ha.of_agg
    exact⟨M',cs'.toArray,rfl,inv_here hI',⟨hI'.os,hI'.tape,hI'.output,hI'.size,hI'.old⟩,by simpa using h2⟩
 have fin:∀ {M':Mem} {l:List AV} {C:Array Value},RL M' l C.toList→l.length=18→l.all (·.one)=true→C.size=18∧C.all (·.oneCell')=true:=fun {M' l C} h hl h1=>by
  refine⟨?_,by rw[← Array.all_toList];exact h.all_one h1⟩
  have h2:=h.1
  have h3:C.toList.length=C.size:=Array.length_toList
  omega
 cases h:findF c.features n with
 |none=>
  refine(key _ _ (feature_none c n h)).mono fun e W' ⟨M',C,h1,h2,h3,h4⟩=> ?_
  obtain⟨g1,g2⟩:=fin h4 rfl rfl
  exact⟨M',C,false,h1,h2,h3,g1,g2,.inl ⟨rfl,rfl⟩⟩
 |some f=>
  refine(key _ _ (feature_some c n f h)).mono fun e W' ⟨M',C,h1,h2,h3,h4⟩=> ?_
  obtain⟨g1,g2⟩:=fin h4 rfl rfl
  exact⟨M',C,true,h1,h2,h3,g1,g2,.inr ⟨f,rfl,rfl,h4⟩⟩
structure UInv(fs:List Fea)(x:Ex)(N T W:List Str):Prop where
 b1:∀ n∈x.feats,n∈N
 b2:∀ t∈x.tabs,t∈T
 r1:∀ n∈N,Reach fs x.feats n
 r2:∀ t∈T,ReachT fs x.feats x.tabs t
 w:∀ n∈W,n∈N
 c:∀ n∈N,n∈W∨∀ f,findF fs n=some f→(∀ m∈f.body.feats,m∈N)∧∀ t∈f.body.tabs,t∈T
 nn:N.Nodup
 nt:T.Nodup
 l:W.length≤N.length
theorem UInv.skip{fs:List Fea}{x:Ex}{N T W:List Str}{n:Str}(h:UInv fs x N T (n::W))(hf:findF fs n=none):UInv fs x N T W:=
 ⟨h.b1,h.b2,h.r1,h.r2,fun m hm=>h.w m (by simp[hm]),fun m hm=>by
  rcases h.c m hm with h1|h1
  ·rcases List.mem_cons.1 h1 with rfl|h1
   ·exact .inr fun f hf'=>by rw[hf]at hf';cases hf'
   ·exact .inl h1
  ·exact .inr h1,h.nn,h.nt,by have:=h.l;simp only[List.length_cons]at this;omega⟩
theorem UInv.more{fs:List Fea}{x:Ex}{N T W A T':List Str}{n:Str}{f:Fea}(h:UInv fs x N T (n::W))(hf:findF fs n=some f)(hA:∀ a∈A,a∈f.body.feats)(hall:∀ a∈f.body.feats,a∈N++A)(hT:∀ t,t∈T'↔t∈f.body.tabs∨t∈T)
  (hn:(N++A).Nodup) (ht:T'.Nodup):UInv fs x (N++A) T' (W++A):=by
 have hr:=h.r1 n (h.w n (by simp))
 refine⟨fun m hm=>List.mem_append_left _ (h.b1 m hm),fun t ht=>(hT t).2 (.inr (h.b2 t ht)),fun m hm=> ?_,fun t ht=> ?_,fun m hm=> ?_,fun m hm=> ?_,hn,ht,by have:=h.l;simp only[List.length_cons,List.length_append]at this ⊢;omega⟩
 ·rcases List.mem_append.1 hm with hm|hm
  ·exact h.r1 m hm
  ·exact .step hr hf (hA m hm)
 ·rcases(hT t).1 ht with ht|ht
  ·exact .inr ⟨n,f,hr,hf,ht⟩
  ·exact h.r2 t ht
 ·rcases List.mem_append.1 hm with hm|hm
  ·exact List.mem_append_left _ (h.w m (by simp[hm]))
  ·exact List.mem_append_right _ hm
 ·rcases List.mem_append.1 hm with hm|hm
  ·rcases h.c m hm with h1|h1
   ·rcases List.mem_cons.1 h1 with rfl|h1
    ·exact .inr fun f' hf'=>by rw[hf]at hf';cases hf';exact⟨hall,fun t ht=>(hT t).2 (.inl ht)⟩
    ·exact .inl (List.mem_append_left _ h1)
   ·exact .inr fun f' hf'=>⟨fun a ha=>List.mem_append_left _ ((h1 f' hf').1 a ha),fun t ht=>(hT t).2 (.inr ((h1 f' hf').2 t ht))⟩
  ·exact .inl (List.mem_append_right _ hm)
theorem UInv.done{fs:List Fea}{x:Ex}{N T S S':List Str}(h:UInv fs x N T [])(h1:Srt S)(h2:∀ s,s∈S↔s∈N)(h3:Srt S')(h4:∀ s,s∈S'↔s∈T):S=usesF fs x∧S'=usesT fs x:=by
 have hc:Closed fs N T:=fun n hn f hf=>by
  rcases h.c n hn with h'|h'
  ·cases h'
  ·exact h' f hf
 obtain⟨g1,g2⟩:=reach_of_closed h.b1 h.b2 h.r1 h.r2 hc
 exact⟨(srtOf_eq h1 fun s=>(h2 s).trans (g1 s)).symm,(srtOf_eq h3 fun s=>(h4 s).trans (g2 s)).symm⟩
def univT(fs:List Fea)(x:Ex):List Str:=x.tabs++fs.flatMap fun f=>f.body.tabs
theorem reachT_univ{fs:List Fea}{x:Ex}{t:Str}(h:ReachT fs x.feats x.tabs t):t∈univT fs x:=by
 rcases h with h|⟨n,f,_,hf,ht⟩
 ·exact List.mem_append_left _ h
 ·exact List.mem_append_right _ (List.mem_flatMap.2 ⟨f,(findF_mem hf).1,ht⟩)
structure USmall(fs:List Fea)(x:Ex):Prop where
 n:(univ fs x.feats).length≤274877906944
 t:(univT fs x).length≤274877906944
 sn:∀ s∈univ fs x.feats,s.size≤maxLen
 st:∀ s∈univT fs x,s.size≤maxLen
theorem UInv.lenN{fs:List Fea}{x:Ex}{N T W:List Str}(h:UInv fs x N T W):N.length≤(univ fs x.feats).length:=nodup_le h.nn fun n hn=>reach_univ (h.r1 n hn)
theorem UInv.lenT{fs:List Fea}{x:Ex}{N T W:List Str}(h:UInv fs x N T W):T.length≤(univT fs x).length:=nodup_le h.nt fun n hn=>reachT_univ (h.r2 n hn)
theorem univ_feats{fs:List Fea}{x:Ex}{n:Str}{f:Fea}(hf:findF fs n=some f){s:Str}(hs:s∈f.body.feats):s∈univ fs x.feats:=List.mem_append_right _ (List.mem_flatMap.2 ⟨f,(findF_mem hf).1,hs⟩)
theorem univ_tabs{fs:List Fea}{x:Ex}{n:Str}{f:Fea}(hf:findF fs n=some f){s:Str}(hs:s∈f.body.tabs):s∈univT fs x:=List.mem_append_right _ (List.mem_flatMap.2 ⟨f,(findF_mem hf).1,hs⟩)
theorem len_flatMap{α:Type}{g:Fea→List α}:∀ {l:List Fea} {f:Fea},f∈l→(g f).length≤(l.flatMap g).length
 |x::l,f,h=>by
  rw[List.flatMap_cons,List.length_append]
  rcases List.mem_cons.1 h with rfl|h
  ·omega
  ·have:=len_flatMap (g:=g) h;omega
theorem feats_len{fs:List Fea}{x:Ex}{n:Str}{f:Fea}(hf:findF fs n=some f):f.body.feats.length≤(univ fs x.feats).length:=by
 have:=len_flatMap (g:=fun f=>f.body.feats) (findF_mem hf).1
 unfold univ;rw[List.length_append];omega
theorem tabs_len{fs:List Fea}{x:Ex}{n:Str}{f:Fea}(hf:findF fs n=some f):f.body.tabs.length≤(univT fs x).length:=by
 have:=len_flatMap (g:=fun f=>f.body.tabs) (findF_mem hf).1
 unfold univT;rw[List.length_append];omega
end Go.Proofs.YtekngilbecjkhaaGreatDoor
