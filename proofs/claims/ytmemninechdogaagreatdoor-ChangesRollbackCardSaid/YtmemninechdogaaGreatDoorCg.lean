import Derived.Test.YtmemninechdogaaGreatDoorCf
set_option linter.all false
namespace Go.Proofs.YtmemninechdogaaGreatDoor
open Go.RowKit Go.Proofs Go.Tb
open Go.Sx (AV Mem RL R M0 Glob)
theorem GI{M:Mem}{w W:World}(hI:Sx.Inv Tryz.prog M ⟨w,M⟩ [] w)(hb:Below w.heap.size w W):Sx.Inv Tryz.prog M ⟨W,M⟩ [] W:=JO hI (bz.EA hb []) (RO w)
theorem xe{B B':Nat}{a c:World}(h:Below B a c)(hB:B'<=B):Below B' a c:=⟨h.os,h.tape,h.output,h.size,fun k hk=>h.block k (Yz hk hB)⟩
structure mB(fs:List aj)(x:Ex)(N T W:List ae):Prop where
 b1:∀n∈x.bH,n∈N
 b2:∀t∈x.dz,t∈T
 r1:∀n∈N,Reach fs x.bH n
 r2:∀t∈T,zi fs x.bH x.dz t
 w:∀n∈W,n∈N
 c:∀n∈N,n∈W\/∀f,findF fs n=some f->(∀m∈f.body.bH,m∈N)/\∀t∈f.body.dz,t∈T
 nn:N.Nodup
 nt:T.Nodup
 l:W.length<=N.length
theorem mB.skip{fs:List aj}{x:Ex}{N T W:List ae}{n:ae}(h:mB fs x N T (n::W))(hf:findF fs n=none):mB fs x N T W:=
 ⟨h.b1,h.b2,h.r1,h.r2,fun m hm=>h.w m (by simp[hm]),fun m hm=>by
  rcases h.c m hm with h1|h1
  .rcases ZR.1 h1 with rfl|h1
   .exact .inr fun f hf'=>by rw[hf]at hf';cases hf'
   .exact .inl h1
  .exact .inr h1,h.nn,h.nt,by have:=h.l;simp only[ZY]at this;omega⟩
theorem mB.more{fs:List aj}{x:Ex}{N T W A T':List ae}{n:ae}{f:aj}(h:mB fs x N T (n::W))(hf:findF fs n=some f)(hA:∀a∈A,a∈f.body.bH)(bW:∀a∈f.body.bH,a∈N++A)(hT:∀t,t∈T'↔t∈f.body.dz\/t∈T)
  (hn:(N++A).Nodup) (ht:T'.Nodup):mB fs x (N++A) T' (W++A):=by
 have hr:=h.r1 n (h.w n (by simp));refine⟨fun m hm=>Zy _ (h.b1 m hm),fun t ht=>(hT t).2 (.inr (h.b2 t ht)),fun m hm=>?_,fun t ht=>?_,fun m hm=>?_,fun m hm=>?_,hn,ht,by have:=h.l;simp only[ZY,Z7]at this|-;omega⟩
 .rcases ZI.1 hm with hm|hm
  .exact h.r1 m hm
  .exact .step hr hf (hA m hm)
 .rcases(hT t).1 ht with ht|ht
  .exact .inr ⟨n,f,hr,hf,ht⟩
  .exact h.r2 t ht
 .rcases ZI.1 hm with hm|hm
  .exact Zy _ (h.w m (by simp[hm]))
  .exact Y3 _ hm
 .rcases ZI.1 hm with hm|hm
  .rcases h.c m hm with h1|h1
   .rcases ZR.1 h1 with rfl|h1
    .exact .inr fun f' hf'=>by rw[hf]at hf';cases hf';exact⟨bW,fun t ht=>(hT t).2 (.inl ht)⟩
    .exact .inl (Zy _ h1)
   .exact .inr fun f' hf'=>⟨fun a ha=>Zy _ ((h1 f' hf').1 a ha),fun t ht=>(hT t).2 (.inr ((h1 f' hf').2 t ht))⟩
  .exact .inl (Y3 _ hm)
theorem mB.done{fs:List aj}{x:Ex}{N T S S':List ae}(h:mB fs x N T [])(h1:bI S)(h2:∀s,s∈S↔s∈N)(h3:bI S')(h4:∀s,s∈S'↔s∈T):S=Uc fs x/\S'=Ud fs x:=by
 have hc:sH fs N T:=fun n hn f hf=>by
  rcases h.c n hn with h'|h'
  .cases h'
  .exact h' f hf
 obtain⟨g1,g2⟩:=SS h.b1 h.b2 h.r1 h.r2 hc;exact⟨(Fc h1 fun s=>(h2 s).trans (g1 s)).symm,(Fc h3 fun s=>(h4 s).trans (g2 s)).symm⟩
def Ua(fs:List aj)(x:Ex):List ae:=x.dz++fs.flatMap fun f=>f.body.dz
structure Vv(fs:List aj)(x:Ex):Prop where
 n:(univ fs x.bH).length<=274877906944
 t:(Ua fs x).length<=274877906944
 sn:∀s∈univ fs x.bH,s.size<=maxLen
 st:∀s∈Ua fs x,s.size<=maxLen
theorem mB.ahw{fs:List aj}{x:Ex}{N T W:List ae}(h:mB fs x N T W):N.length<=(univ fs x.bH).length:=jh h.nn fun n hn=>ai8 (h.r1 n hn)
theorem Q9{q:Type}{g:aj->List q}:∀{l:List aj} {f:aj},f∈l->(g f).length<=(l.flatMap g).length
 |x::l,f,h=>by
  rw[List.flatMap_cons,Z7];rcases ZR.1 h with rfl|h
  .omega
  .have:=Q9 (g:=g) h;omega
theorem acx{fs:List aj}{x:Ex}{n:ae}{f:aj}(hf:findF fs n=some f):f.body.bH.length<=(univ fs x.bH).length:=by have:=Q9 (g:=fun f=>f.body.bH) (Hy hf).1;unfold univ;rw[Z7];omega
