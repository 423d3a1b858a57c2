/- catalog.Uses: the closure of what is used, collected name by name. -/
import Derived.Test.YtajimcniogfpcaaGreatDoorCf
import Derived.Test.YtajimcniogfpcaaGreatDoorCe
set_option linter.unusedVariables false
set_option linter.unusedSimpArgs false
namespace Go.Proofs.YtajimcniogfpcaaGreatDoor
open Go.RowKit Go.Proofs Go.Tb
open Go.Sx (AV Mem RL R M0 Glob)
theorem Bj{M:Mem}{w W:World}(hI:Sx.Inv Tryz.prog M ⟨w,M⟩ [] w)(hb:Below w.heap.size w W):Sx.Inv Tryz.prog M ⟨W,M⟩ [] W:=K9 hI (bB.FI hb []) (Th w)
theorem tU{B B':Nat}{a c:World}(h:Below B a c)(hB:B'≤B):Below B' a c:=⟨h.os,h.tape,h.output,h.size,fun k hk=>h.block k (Yu hk hB)⟩
structure ku(fs:List aj)(x:Ex)(N T W:List ae):Prop where
 b1:∀ n∈x.aW,n∈N
 b2:∀ t∈x.bU,t∈T
 r1:∀ n∈N,Reach fs x.aW n
 r2:∀ t∈T,wm fs x.aW x.bU t
 w:∀ n∈W,n∈N
 c:∀ n∈N,n∈W∨∀ f,findF fs n=some f→(∀ m∈f.body.aW,m∈N)∧∀ t∈f.body.bU,t∈T
 nn:N.Nodup
 nt:T.Nodup
 l:W.length≤N.length
theorem ku.skip{fs:List aj}{x:Ex}{N T W:List ae}{n:ae}(h:ku fs x N T (n::W))(hf:findF fs n=none):ku fs x N T W:=
 ⟨h.b1,h.b2,h.r1,h.r2,fun m hm=>h.w m (by simp[hm]),fun m hm=>by
  rcases h.c m hm with h1|h1
  ·rcases ZT.1 h1 with rfl|h1
   ·exact .inr fun f ql=>by rw[hf]at ql;cases ql
   ·exact .inl h1
  ·exact .inr h1,h.nn,h.nt,by have:=h.l;simp only[Z8]at this;omega⟩
theorem ku.more{fs:List aj}{x:Ex}{N T W A T':List ae}{n:ae}{f:aj}(h:ku fs x N T (n::W))(hf:findF fs n=some f)(hA:∀ a∈A,a∈f.body.aW)(cO:∀ a∈f.body.aW,a∈N++A)(hT:∀ t,t∈T'↔t∈f.body.bU∨t∈T)
  (hn:(N++A).Nodup) (ht:T'.Nodup):ku fs x (N++A) T' (W++A):=by
 have hr:=h.r1 n (h.w n (by simp))
 refine⟨fun m hm=>ZI _ (h.b1 m hm),fun t ht=>(hT t).2 (.inr (h.b2 t ht)),fun m hm=> ?_,fun t ht=> ?_,fun m hm=> ?_,fun m hm=> ?_,hn,ht,by have:=h.l;simp only[Z8,Z9]at this ⊢;omega⟩
 ·rcases ZJ.1 hm with hm|hm
  ·exact h.r1 m hm
  ·exact .step hr hf (hA m hm)
 ·rcases(hT t).1 ht with ht|ht
  ·exact .inr ⟨n,f,hr,hf,ht⟩
  ·exact h.r2 t ht
 ·rcases ZJ.1 hm with hm|hm
  ·exact ZI _ (h.w m (by simp[hm]))
  ·exact Zp _ hm
 ·rcases ZJ.1 hm with hm|hm
  ·rcases h.c m hm with h1|h1
   ·rcases ZT.1 h1 with rfl|h1
    ·exact .inr fun f' ql=>by rw[hf]at ql;cases ql;exact⟨cO,fun t ht=>(hT t).2 (.inl ht)⟩
    ·exact .inl (ZI _ h1)
   ·exact .inr fun f' ql=>⟨fun a ha=>ZI _ ((h1 f' ql).1 a ha),fun t ht=>(hT t).2 (.inr ((h1 f' ql).2 t ht))⟩
  ·exact .inl (Zp _ hm)
theorem ku.done{fs:List aj}{x:Ex}{N T S S':List ae}(h:ku fs x N T [])(h1:bl S)(h2:∀ s,s∈S↔s∈N)(h3:bl S')(h4:∀ s,s∈S'↔s∈T):S=iB fs x∧S'=oB fs x:=by
 have hc:tC fs N T:=fun n hn f hf=>by
  rcases h.c n hn with h'|h'
  ·cases h'
  ·exact h' f hf
 obtain⟨g1,g2⟩:=F0 h.b1 h.b2 h.r1 h.r2 hc
 exact⟨(pK h1 fun s=>(h2 s).trans (g1 s)).symm,(pK h3 fun s=>(h4 s).trans (g2 s)).symm⟩
def mz(fs:List aj)(x:Ex):List ae:=x.bU++fs.flatMap fun f=>f.body.bU
structure H8(fs:List aj)(x:Ex):Prop where
 n:(univ fs x.aW).length≤274877906944
 t:(mz fs x).length≤274877906944
 sn:∀ s∈univ fs x.aW,s.size≤maxLen
 st:∀ s∈mz fs x,s.size≤maxLen
theorem ku.ahp{fs:List aj}{x:Ex}{N T W:List ae}(h:ku fs x N T W):N.length≤(univ fs x.aW).length:=ic h.nn fun n hn=>L8 (h.r1 n hn)
theorem Lm{α:Type}{g:aj→List α}:∀ {l:List aj} {f:aj},f∈l→(g f).length≤(l.flatMap g).length
 |x::l,f,h=>by
  rw[List.flatMap_cons,Z9]
  rcases ZT.1 h with rfl|h
  ·omega
  ·have:=Lm (g:=g) h;omega
theorem Px{fs:List aj}{x:Ex}{n:ae}{f:aj}(hf:findF fs n=some f):f.body.aW.length≤(univ fs x.aW).length:=by
 have:=Lm (g:=fun f=>f.body.aW) (rG hf).1
 unfold univ;rw[Z9];omega
end Go.Proofs.YtajimcniogfpcaaGreatDoor
