/- catalog.Uses: the closure of what is used, collected name by name. -/
import Derived.Test.YtcccbdelfhgmlaaGreatDoorCf
import Derived.Test.YtcccbdelfhgmlaaGreatDoorPl
set_option linter.unusedVariables false
set_option linter.unusedSimpArgs false
namespace Go.Proofs.YtcccbdelfhgmlaaGreatDoor
open Go.RowKit Go.Proofs Go.Tb
open Go.Sx (AV Mem RL R M0 Glob)
theorem uP{M:Mem}{w W:World}(hI:Sx.Inv Tryz.prog M ⟨w,M⟩ [] w)(hb:Below w.heap.size w W):Sx.Inv Tryz.prog M ⟨W,M⟩ [] W:=JO hI (aW.yH hb []) (SF w)
theorem gx{B B':Nat}{a c:World}(h:Below B a c)(hB:B'≤B):Below B' a c:=⟨h.os,h.tape,h.output,h.size,fun k hk=>h.block k (Yx hk hB)⟩
theorem afC{M':Mem}{W:Sx.Base}{W':World}(hI:Sx.Inv Tryz.prog M' W [] W'):Sx.Inv Tryz.prog M' ⟨W',M'⟩ [] W':=by
 refine⟨rfl,rfl,rfl,ZR _,fun _ _=>rfl,hI.dA,(fun e he=>(by cases he)),XJ,hI.gl,?_,fun _ _ _ h _=>h⟩
 exact GW.keep hI.gw hI.size fun k cs t f h=>hI.old k (ZX.1 h).1
theorem ad5(c:di){M:Mem}{W:World}(hI:Sx.Inv Tryz.prog M ⟨W,M⟩ [] W){Cc:Array Value}(hR:RL M c.cells Cc.toList)(n:ae):
  Calls Tryz.prog 24 #[.agg Cc,.string n] W fun e W'=>∃ (M':Mem) (C:Array Value) (b:Bool),e= .returned (.tuple #[.agg C,.bool b])∧Sx.Inv Tryz.prog M' ⟨W',M'⟩ [] W'∧Below W.heap.size W W'∧C.size=18∧C.all (·.oneCell')=true∧
   ((b=false∧findF c.features n=none)∨∃ f,b=true∧findF c.features n=some f∧RL M' f.cells C.toList):=by
 have key:∀ (l:List AV) (b:Bool),Sx.Pure Tryz.prog 24 [.agg c.cells,sv n] (.aT [.agg l,.v (.bool b)])→Calls Tryz.prog 24 #[.agg Cc,.string n] W fun e W'=>∃ (M':Mem) (C:Array Value),e= .returned (.tuple #[.agg C,.bool b])∧Sx.Inv Tryz.prog M' ⟨W',M'⟩ [] W'∧Below W.heap.size W W'∧RL M' l C.toList:=fun l b h=>by
  have qS:RL M [.agg c.cells,sv n] [.agg Cc,.string n]:=RL.cons (by have:=R.tM hR;rwa [Array.toArray_toList]at this) (RL.cons (.v _) RL.nil)
  refine(h.sp [] M ⟨W,M⟩ W _ hI qS).mono fun e w' ⟨M',r,σ',_,aP,hr,hq⟩=> ?_
  obtain⟨rfl,rfl⟩:=hq
  cases e<;>simp only[Sx.uJ]at hr
  cases hr with
  |aT _ cs hl h1=>
   match cs,hl,h1 with
   |[a,b'],_,h1=>
    have ha:=h1 0 (by simp) (by simp)
    have hb:=(h1 1 (by simp) (by simp)).ay
    simp only[Yo,XH]at ha hb
    subst hb
    obtain⟨cs',rfl,h2⟩:=ha.qd
    exact⟨M',cs'.toArray,rfl,afC aP,⟨aP.os,aP.tape,aP.output,aP.size,aP.old⟩,by simpa using h2⟩
 have fin:∀ {M':Mem} {l:List AV} {C:Array Value},RL M' l C.toList→l.length=18→l.all (·.one)=true→C.size=18∧C.all (·.oneCell')=true:=fun {M' l C} h hl h1=>by
  refine⟨?_,by rw[← Array.all_toList];exact h.Av h1⟩
  have h2:=h.1
  have h3:C.toList.length=C.size:=Zb
  omega
 cases h:findF c.features n with
 |none=>
  refine(key _ _ (ad6 c n h)).mono fun e W' ⟨M',C,h1,h2,h3,h4⟩=> ?_
  obtain⟨g1,g2⟩:=fin h4 rfl rfl
  exact⟨M',C,false,h1,h2,h3,g1,g2,.inl ⟨rfl,rfl⟩⟩
 |some f=>
  refine(key _ _ (ad7 c n f h)).mono fun e W' ⟨M',C,h1,h2,h3,h4⟩=> ?_
  obtain⟨g1,g2⟩:=fin h4 rfl rfl
  exact⟨M',C,true,h1,h2,h3,g1,g2,.inr ⟨f,rfl,rfl,h4⟩⟩
structure iS(fs:List aq)(x:Ex)(N T W:List ae):Prop where
 b1:∀ n∈x.aV,n∈N
 b2:∀ t∈x.cy,t∈T
 r1:∀ n∈N,Reach fs x.aV n
 r2:∀ t∈T,xe fs x.aV x.cy t
 w:∀ n∈W,n∈N
 c:∀ n∈N,n∈W∨∀ f,findF fs n=some f→(∀ m∈f.body.aV,m∈N)∧∀ t∈f.body.cy,t∈T
 nn:N.Nodup
 nt:T.Nodup
 l:W.length≤N.length
theorem iS.skip{fs:List aq}{x:Ex}{N T W:List ae}{n:ae}(h:iS fs x N T (n::W))(hf:findF fs n=none):iS fs x N T W:=
 ⟨h.b1,h.b2,h.r1,h.r2,fun m hm=>h.w m (by simp[hm]),fun m hm=>by
  rcases h.c m hm with h1|h1
  ·rcases ZV.1 h1 with rfl|h1
   ·exact .inr fun f pI=>by rw[hf]at pI;cases pI
   ·exact .inl h1
  ·exact .inr h1,h.nn,h.nt,by have:=h.l;simp only[Z6]at this;omega⟩
theorem iS.more{fs:List aq}{x:Ex}{N T W A T':List ae}{n:ae}{f:aq}(h:iS fs x N T (n::W))(hf:findF fs n=some f)(hA:∀ a∈A,a∈f.body.aV)(cV:∀ a∈f.body.aV,a∈N++A)(hT:∀ t,t∈T'↔t∈f.body.cy∨t∈T)
  (hn:(N++A).Nodup) (ht:T'.Nodup):iS fs x (N++A) T' (W++A):=by
 have hr:=h.r1 n (h.w n (by simp))
 refine⟨fun m hm=>ZN _ (h.b1 m hm),fun t ht=>(hT t).2 (.inr (h.b2 t ht)),fun m hm=> ?_,fun t ht=> ?_,fun m hm=> ?_,fun m hm=> ?_,hn,ht,by have:=h.l;simp only[Z6,Z5]at this ⊢;omega⟩
 ·rcases ZG.1 hm with hm|hm
  ·exact h.r1 m hm
  ·exact .step hr hf (hA m hm)
 ·rcases(hT t).1 ht with ht|ht
  ·exact .inr ⟨n,f,hr,hf,ht⟩
  ·exact h.r2 t ht
 ·rcases ZG.1 hm with hm|hm
  ·exact ZN _ (h.w m (by simp[hm]))
  ·exact Zt _ hm
 ·rcases ZG.1 hm with hm|hm
  ·rcases h.c m hm with h1|h1
   ·rcases ZV.1 h1 with rfl|h1
    ·exact .inr fun f' pI=>by rw[hf]at pI;cases pI;exact⟨cV,fun t ht=>(hT t).2 (.inl ht)⟩
    ·exact .inl (ZN _ h1)
   ·exact .inr fun f' pI=>⟨fun a ha=>ZN _ ((h1 f' pI).1 a ha),fun t ht=>(hT t).2 (.inr ((h1 f' pI).2 t ht))⟩
  ·exact .inl (Zt _ hm)
theorem iS.done{fs:List aq}{x:Ex}{N T S S':List ae}(h:iS fs x N T [])(h1:bO S)(h2:∀ s,s∈S↔s∈N)(h3:bO S')(h4:∀ s,s∈S'↔s∈T):S=rS fs x∧S'=rT fs x:=by
 have hc:sj fs N T:=fun n hn f hf=>by
  rcases h.c n hn with h'|h'
  ·cases h'
  ·exact h' f hf
 obtain⟨g1,g2⟩:=E8 h.b1 h.b2 h.r1 h.r2 hc
 exact⟨(uf h1 fun s=>(h2 s).trans (g1 s)).symm,(uf h3 fun s=>(h4 s).trans (g2 s)).symm⟩
def mF(fs:List aq)(x:Ex):List ae:=x.cy++fs.flatMap fun f=>f.body.cy
theorem TU{fs:List aq}{x:Ex}{t:ae}(h:xe fs x.aV x.cy t):t∈mF fs x:=by
 rcases h with h|⟨n,f,_,hf,ht⟩
 ·exact ZN _ h
 ·exact Zt _ (XQ.2 ⟨f,(xE hf).1,ht⟩)
structure Aj(fs:List aq)(x:Ex):Prop where
 n:(univ fs x.aV).length≤274877906944
 t:(mF fs x).length≤274877906944
 sn:∀ s∈univ fs x.aV,s.size≤maxLen
 st:∀ s∈mF fs x,s.size≤maxLen
theorem iS.J1{fs:List aq}{x:Ex}{N T W:List ae}(h:iS fs x N T W):N.length≤(univ fs x.aV).length:=iN h.nn fun n hn=>ahY (h.r1 n hn)
theorem iS.J2{fs:List aq}{x:Ex}{N T W:List ae}(h:iS fs x N T W):T.length≤(mF fs x).length:=iN h.nt fun n hn=>TU (h.r2 n hn)
theorem axz{fs:List aq}{x:Ex}{n:ae}{f:aq}(hf:findF fs n=some f){s:ae}(hs:s∈f.body.aV):s∈univ fs x.aV:=Zt _ (XQ.2 ⟨f,(xE hf).1,hs⟩)
theorem axA{fs:List aq}{x:Ex}{n:ae}{f:aq}(hf:findF fs n=some f){s:ae}(hs:s∈f.body.cy):s∈mF fs x:=Zt _ (XQ.2 ⟨f,(xE hf).1,hs⟩)
theorem J3{α:Type}{g:aq→List α}:∀ {l:List aq} {f:aq},f∈l→(g f).length≤(l.flatMap g).length
 |x::l,f,h=>by
  rw[List.flatMap_cons,Z5]
  rcases ZV.1 h with rfl|h
  ·omega
  ·have:=J3 (g:=g) h;omega
theorem Hy{fs:List aq}{x:Ex}{n:ae}{f:aq}(hf:findF fs n=some f):f.body.aV.length≤(univ fs x.aV).length:=by
 have:=J3 (g:=fun f=>f.body.aV) (xE hf).1
 unfold univ;rw[Z5];omega
theorem aw1{fs:List aq}{x:Ex}{n:ae}{f:aq}(hf:findF fs n=some f):f.body.cy.length≤(mF fs x).length:=by
 have:=J3 (g:=fun f=>f.body.cy) (xE hf).1
 unfold mF;rw[Z5];omega
end Go.Proofs.YtcccbdelfhgmlaaGreatDoor
