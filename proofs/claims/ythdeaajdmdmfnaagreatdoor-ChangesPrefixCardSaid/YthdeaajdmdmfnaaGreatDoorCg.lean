/- catalog.Uses: the closure of what is used, collected name by name. -/
import Derived.Test.YthdeaajdmdmfnaaGreatDoorCf
import Derived.Test.YthdeaajdmdmfnaaGreatDoorSet
set_option linter.unusedVariables false
set_option linter.unusedSimpArgs false
namespace Go.Proofs.YthdeaajdmdmfnaaGreatDoor
open Go.RowKit Go.Proofs Go.Tb
open Go.Sx (AV Mem RL R M0 Glob)
theorem FT{M:Mem}{w W:World}(hI:Sx.Inv Tryz.prog M ⟨w,M⟩ [] w)(hb:Below w.heap.size w W):Sx.Inv Tryz.prog M ⟨W,M⟩ [] W:=Jk hI (bw.D2 hb []) (QL w)
theorem wQ{B B':Nat}{a c:World}(h:Below B a c)(hB:B'≤B):Below B' a c:=⟨h.os,h.tape,h.output,h.size,fun k hk=>h.block k (Y8 hk hB)⟩
structure rK(fs:List aq)(x:Ex)(N T W:List af):Prop where
 b1:∀ n∈x.bS,n∈N
 b2:∀ t∈x.eU,t∈T
 r1:∀ n∈N,Reach fs x.bS n
 r2:∀ t∈T,yR fs x.bS x.eU t
 w:∀ n∈W,n∈N
 c:∀ n∈N,n∈W∨∀ f,findF fs n=some f→(∀ m∈f.body.bS,m∈N)∧∀ t∈f.body.eU,t∈T
 nn:N.Nodup
 nt:T.Nodup
 l:W.length≤N.length
theorem rK.skip{fs:List aq}{x:Ex}{N T W:List af}{n:af}(h:rK fs x N T (n::W))(hf:findF fs n=none):rK fs x N T W:=
 ⟨h.b1,h.b2,h.r1,h.r2,fun m hm=>h.w m (by simp[hm]),fun m hm=>by
  rcases h.c m hm with h1|h1
  ·rcases ZK.1 h1 with rfl|h1
   ·exact .inr fun f uR=>by rw[hf]at uR;cases uR
   ·exact .inl h1
  ·exact .inr h1,h.nn,h.nt,by have:=h.l;simp only[ZS]at this;omega⟩
theorem rK.done{fs:List aq}{x:Ex}{N T S S':List af}(h:rK fs x N T [])(h1:cC S)(h2:∀ s,s∈S↔s∈N)(h3:cC S')(h4:∀ s,s∈S'↔s∈T):S=SP fs x∧S'=SQ fs x:=by
 have hc:rD fs N T:=fun n hn f hf=>by
  rcases h.c n hn with h'|h'
  ·cases h'
  ·exact h' f hf
 obtain⟨g1,g2⟩:=RO h.b1 h.b2 h.r1 h.r2 hc
 exact⟨(EB h1 fun s=>(h2 s).trans (g1 s)).symm,(EB h3 fun s=>(h4 s).trans (g2 s)).symm⟩
def SM(fs:List aq)(x:Ex):List af:=x.eU++fs.flatMap fun f=>f.body.eU
structure T5(fs:List aq)(x:Ex):Prop where
 n:(univ fs x.bS).length≤274877906944
 t:(SM fs x).length≤274877906944
 sn:∀ s∈univ fs x.bS,s.size≤maxLen
 st:∀ s∈SM fs x,s.size≤maxLen
theorem rK.aeK{fs:List aq}{x:Ex}{N T W:List af}(h:rK fs x N T W):N.length≤(univ fs x.bS).length:=jU h.nn fun n hn=>af7 (h.r1 n hn)
theorem Qk{α:Type}{g:aq→List α}:∀ {l:List aq} {f:aq},f∈l→(g f).length≤(l.flatMap g).length
 |x::l,f,h=>by
  rw[List.flatMap_cons,Z4]
  rcases ZK.1 h with rfl|h
  ·omega
  ·have:=Qk (g:=g) h;omega
theorem aa8{fs:List aq}{x:Ex}{n:af}{f:aq}(hf:findF fs n=some f):f.body.bS.length≤(univ fs x.bS).length:=by
 have:=Qk (g:=fun f=>f.body.bS) (Nt hf).1
 unfold univ;rw[Z4];omega
end Go.Proofs.YthdeaajdmdmfnaaGreatDoor
