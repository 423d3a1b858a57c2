/- catalog.Uses: the closure of what is used, collected name by name. -/
import Derived.Test.YtomhopcnkicknaaGreatDoorCf
import Derived.Test.YtomhopcnkicknaaGreatDoorCe
set_option linter.unusedVariables false
set_option linter.unusedSimpArgs false
namespace Go.Proofs.YtomhopcnkicknaaGreatDoor
open _root_.Go.Proofs.Tryz
open Go.RowKit Go.Proofs Go.Tb
open Go.Sx (AV Mem RL R M0 Glob)
theorem sJ{M:Mem}{w W:World}(hI:Sx.Inv prog M ⟨w,M⟩ [] w)(hb:Below w.heap.size w W):Sx.Inv prog M ⟨W,M⟩ [] W:=Hb hI (aZ.wz hb []) (O6 w)
theorem fR{B B':Nat}{a c:World}(h:Below B a c)(hB:B'≤B):Below B' a c:=⟨h.os,h.tape,h.output,h.size,fun k hk=>h.block k (YE hk hB)⟩
theorem adK{M':Mem}{W:Sx.Base}{W':World}(hI:Sx.Inv prog M' W [] W'):Sx.Inv prog M' ⟨W',M'⟩ [] W':=by
 refine⟨rfl,rfl,rfl,ZR _,fun _ _=>rfl,hI.cQ,(fun e he=>(by cases he)),XB,hI.gl,?_,fun _ _ _ h _=>h⟩
 exact GW.bY hI.gw hI.size fun k cs t f h=>hI.old k (Z0.1 h).1
theorem abL(c:az){M:Mem}{W:World}(hI:Sx.Inv prog M ⟨W,M⟩ [] W){Cc:Array Value}(hR:RL M c.cells Cc.toList)(n:ae):
  Calls prog 55 #[.agg Cc,.string n] W fun e W'=>∃ (M':Mem) (C:Array Value) (b:Bool),e= .returned (.tuple #[.agg C,.bool b])∧Sx.Inv prog M' ⟨W',M'⟩ [] W'∧Below W.heap.size W W'∧C.size=18∧C.all (·.oneCell')=true∧
   ((b=false∧findF c.features n=none)∨∃ f,b=true∧findF c.features n=some f∧RL M' f.cells C.toList):=by
 have key:∀ (l:List AV) (b:Bool),Sx.Pure prog 55 [.agg c.cells,sv n] (.aE [.agg l,.v (.bool b)])→Calls prog 55 #[.agg Cc,.string n] W fun e W'=>∃ (M':Mem) (C:Array Value),e= .returned (.tuple #[.agg C,.bool b])∧Sx.Inv prog M' ⟨W',M'⟩ [] W'∧Below W.heap.size W W'∧RL M' l C.toList:=fun l b h=>by
  have kJ:RL M [.agg c.cells,sv n] [.agg Cc,.string n]:=RL.cons (by have:=R.qf hR;rwa [Array.toArray_toList]at this) (RL.cons (.v _) RL.nil)
  refine(h.sp [] M ⟨W,M⟩ W _ hI kJ).mono fun e w' ⟨M',r,af,_,aS,hr,hq⟩=> ?_
  obtain⟨rfl,rfl⟩:=hq
  cases e<;>simp only[Sx.sy]at hr
  cases hr with
  |aE _ cs hl h1=>
   match cs,hl,h1 with
   |[a,b'],_,h1=>
    have ha:=h1 0 (by simp) (by simp)
    have hb:=(h1 1 (by simp) (by simp)).aC
    simp only[YR,Yj]at ha hb
    subst hb
    obtain⟨cs',rfl,h2⟩:=ha.rL
    exact⟨M',cs'.toArray,rfl,adK aS,⟨aS.os,aS.tape,aS.output,aS.size,aS.old⟩,by simpa using h2⟩
 have fin:∀ {M':Mem} {l:List AV} {C:Array Value},RL M' l C.toList→l.length=18→l.all (·.one)=true→C.size=18∧C.all (·.oneCell')=true:=fun {M' l C} h hl h1=>by
  refine⟨?_,by rw[← Array.all_toList];exact h.uR h1⟩
  have h2:=h.1
  have h3:C.toList.length=C.size:=Zi
  omega
 cases h:findF c.features n with
 |none=>
  refine(key _ _ (abM c n h)).mono fun e W' ⟨M',C,h1,h2,h3,h4⟩=> ?_
  obtain⟨g1,g2⟩:=fin h4 rfl rfl
  exact⟨M',C,false,h1,h2,h3,g1,g2,.inl ⟨rfl,rfl⟩⟩
 |some f=>
  refine(key _ _ (abN c n f h)).mono fun e W' ⟨M',C,h1,h2,h3,h4⟩=> ?_
  obtain⟨g1,g2⟩:=fin h4 rfl rfl
  exact⟨M',C,true,h1,h2,h3,g1,g2,.inr ⟨f,rfl,rfl,h4⟩⟩
structure ia(fs:List aj)(x:Ex)(N T W:List ae):Prop where
 b1:∀ n∈x.aR,n∈N
 b2:∀ t∈x.bO,t∈T
 r1:∀ n∈N,Reach fs x.aR n
 r2:∀ t∈T,uN fs x.aR x.bO t
 w:∀ n∈W,n∈N
 c:∀ n∈N,n∈W∨∀ f,findF fs n=some f→(∀ m∈f.body.aR,m∈N)∧∀ t∈f.body.bO,t∈T
 nn:N.Nodup
 nt:T.Nodup
 l:W.length≤N.length
theorem ia.skip{fs:List aj}{x:Ex}{N T W:List ae}{n:ae}(h:ia fs x N T (n::W))(hf:findF fs n=none):ia fs x N T W:=
 ⟨h.b1,h.b2,h.r1,h.r2,fun m hm=>h.w m (by simp[hm]),fun m hm=>by
  rcases h.c m hm with h1|h1
  ·rcases ZQ.1 h1 with rfl|h1
   ·exact .inr fun f oD=>by rw[hf]at oD;cases oD
   ·exact .inl h1
  ·exact .inr h1,h.nn,h.nt,by have:=h.l;simp only[Z8]at this;omega⟩
theorem ia.more{fs:List aj}{x:Ex}{N T W A T':List ae}{n:ae}{f:aj}(h:ia fs x N T (n::W))(hf:findF fs n=some f)(hA:∀ a∈A,a∈f.body.aR)(cH:∀ a∈f.body.aR,a∈N++A)(hT:∀ t,t∈T'↔t∈f.body.bO∨t∈T)
  (hn:(N++A).Nodup) (ht:T'.Nodup):ia fs x (N++A) T' (W++A):=by
 have hr:=h.r1 n (h.w n (by simp))
 refine⟨fun m hm=>ZK _ (h.b1 m hm),fun t ht=>(hT t).2 (.inr (h.b2 t ht)),fun m hm=> ?_,fun t ht=> ?_,fun m hm=> ?_,fun m hm=> ?_,hn,ht,by have:=h.l;simp only[Z8,Z9]at this ⊢;omega⟩
 ·rcases ZI.1 hm with hm|hm
  ·exact h.r1 m hm
  ·exact .step hr hf (hA m hm)
 ·rcases(hT t).1 ht with ht|ht
  ·exact .inr ⟨n,f,hr,hf,ht⟩
  ·exact h.r2 t ht
 ·rcases ZI.1 hm with hm|hm
  ·exact ZK _ (h.w m (by simp[hm]))
  ·exact Zt _ hm
 ·rcases ZI.1 hm with hm|hm
  ·rcases h.c m hm with h1|h1
   ·rcases ZQ.1 h1 with rfl|h1
    ·exact .inr fun f' oD=>by rw[hf]at oD;cases oD;exact⟨cH,fun t ht=>(hT t).2 (.inl ht)⟩
    ·exact .inl (ZK _ h1)
   ·exact .inr fun f' oD=>⟨fun a ha=>ZK _ ((h1 f' oD).1 a ha),fun t ht=>(hT t).2 (.inr ((h1 f' oD).2 t ht))⟩
  ·exact .inl (Zt _ hm)
theorem ia.done{fs:List aj}{x:Ex}{N T S S':List ae}(h:ia fs x N T [])(h1:bg S)(h2:∀ s,s∈S↔s∈N)(h3:bg S')(h4:∀ s,s∈S'↔s∈T):S=rY fs x∧S'=rZ fs x:=by
 have hc:qJ fs N T:=fun n hn f hf=>by
  rcases h.c n hn with h'|h'
  ·cases h'
  ·exact h' f hf
 obtain⟨g1,g2⟩:=Dd h.b1 h.b2 h.r1 h.r2 hc
 exact⟨(rR h1 fun s=>(h2 s).trans (g1 s)).symm,(rR h3 fun s=>(h4 s).trans (g2 s)).symm⟩
def lY(fs:List aj)(x:Ex):List ae:=x.bO++fs.flatMap fun f=>f.body.bO
theorem P3{fs:List aj}{x:Ex}{t:ae}(h:uN fs x.aR x.bO t):t∈lY fs x:=by
 rcases h with h|⟨n,f,_,hf,ht⟩
 ·exact ZK _ h
 ·exact Zt _ (XO.2 ⟨f,(sY hf).1,ht⟩)
structure xJ(fs:List aj)(x:Ex):Prop where
 n:(univ fs x.aR).length≤274877906944
 t:(lY fs x).length≤274877906944
 sn:∀ s∈univ fs x.aR,s.size≤maxLen
 st:∀ s∈lY fs x,s.size≤maxLen
theorem ia.Ho{fs:List aj}{x:Ex}{N T W:List ae}(h:ia fs x N T W):N.length≤(univ fs x.aR).length:=gn h.nn fun n hn=>ahK (h.r1 n hn)
theorem ia.Hq{fs:List aj}{x:Ex}{N T W:List ae}(h:ia fs x N T W):T.length≤(lY fs x).length:=gn h.nt fun n hn=>P3 (h.r2 n hn)
theorem aMz{fs:List aj}{x:Ex}{n:ae}{f:aj}(hf:findF fs n=some f){s:ae}(hs:s∈f.body.aR):s∈univ fs x.aR:=Zt _ (XO.2 ⟨f,(sY hf).1,hs⟩)
theorem aMA{fs:List aj}{x:Ex}{n:ae}{f:aj}(hf:findF fs n=some f){s:ae}(hs:s∈f.body.bO):s∈lY fs x:=Zt _ (XO.2 ⟨f,(sY hf).1,hs⟩)
theorem Hr{α:Type}{g:aj→List α}:∀ {l:List aj} {f:aj},f∈l→(g f).length≤(l.flatMap g).length
 |x::l,f,h=>by
  rw[List.flatMap_cons,Z9]
  rcases ZQ.1 h with rfl|h
  ·omega
  ·have:=Hr (g:=g) h;omega
theorem Fb{fs:List aj}{x:Ex}{n:ae}{f:aj}(hf:findF fs n=some f):f.body.aR.length≤(univ fs x.aR).length:=by
 have:=Hr (g:=fun f=>f.body.aR) (sY hf).1
 unfold univ;rw[Z9];omega
theorem aMf{fs:List aj}{x:Ex}{n:ae}{f:aj}(hf:findF fs n=some f):f.body.bO.length≤(lY fs x).length:=by
 have:=Hr (g:=fun f=>f.body.bO) (sY hf).1
 unfold lY;rw[Z9];omega
end Go.Proofs.YtomhopcnkicknaaGreatDoor
