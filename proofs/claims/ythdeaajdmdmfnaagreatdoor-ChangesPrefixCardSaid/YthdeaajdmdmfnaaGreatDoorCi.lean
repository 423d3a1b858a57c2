/- catalog.Uses: the states of its walk. -/
import Derived.Test.YthdeaajdmdmfnaaGreatDoorCg
import Derived.Test.YthdeaajdmdmfnaaGreatDoorCh
set_option linter.unusedVariables false
set_option linter.unusedSimpArgs false
namespace Go.Proofs.YthdeaajdmdmfnaaGreatDoor
open _root_.Go.Proofs.Tryz
open Go.RowKit Go.Proofs Go.Tb Go.Maps
open Go.Sx (AV Mem RL R M0 Glob)
theorem agm{w:World}{b:Nat}{C:Array Value}{t:TypeId}{f:Nat×Nat}(h:w.heap[b]? =some (.cells C t f)):∀ j (hj:j<C.toList.length),w.cell? ⟨b,0+j,none⟩=some C.toList[j]:=fun j hj=>by
 rw[ZH]
 have:j<C.size:=by simpa using hj
 simp[World.cell?,h,this]
theorem agn{w:World}{b:Nat}{C:Array Value}{t:TypeId}{f:Nat×Nat}(h:w.heap[b]? =some (.cells C t f))(o n:Nat)(hn:o+n≤C.size):∀ j (hj:j<((C.toList.drop o).take n).length),w.cell? ⟨b,o+j,none⟩=some ((C.toList.drop o).take n)[j]:=fun j hj=>by
 have h1:j<n:=by rw[Zx]at hj;omega
 have:o+j<C.size:=by omega
 simp[World.cell?,h,this]
theorem Wp{M:Mem}{f:aq}{C:Array Value}(h:RL M f.cells C.toList):RL M f.body.cells (((C.toList.drop 5).take 12)):=by
 have h1:=(h.drop 5).take 12
 have e:(f.cells.drop 5).take 12=f.body.cells:=by rw[congrFun Ex.o3 f.body];rfl
 rw[e]at h1;exact h1
theorem B7{w w':World}{o:Obj}(h:Below (w.heap.size+1) (w.alloc o) w'):Below w.heap.size w w':=
 ⟨h.os,h.tape,h.output,by have:=h.size;simp at this;omega,fun k hk=>(h.block k (by omega)).trans (heap_alloc_old w o hk)⟩
theorem QJ{w w':World}{e:TypeId}{lo:Nat}{v:Value}{L:List af}(h:names w e lo v L)(hb:Below w.heap.size w w'):names w' e lo v L:=
 h.az fun g cur t f hg=>hb.block g (Z6.1 hg).1
theorem Kj{w w':World}{b:Nat}{L:List af}(h:cB w b L)(hb:Below w.heap.size w w'):cB w' b L:=iF h (bw.D2 hb []) (by simp)
theorem Mc(w:World)(o:Obj)(C:Array Value):Below w.heap.size w ((w.alloc o).setRow w.heap.size C):=(P5 w o C []).below (ZX _) (by simp)
theorem Wq{w2:World}{b:Nat}{Cf:Array Value}{t:TypeId}{f:Nat×Nat}(o:Obj)(hr:w2.heap[b]? =some (.cells Cf t f))(hz:Cf.size=18):∀ j (hj:j<((Cf.toList.drop 5).take 12).toArray.toList.length),(w2.alloc o).cell? ⟨b,5+j,none⟩=some ((Cf.toList.drop 5).take 12).toArray.toList[j]:=fun j hj=>by
 have h1:=agn ((heap_alloc_old w2 o (Z6.1 hr).1).trans hr) 5 12 (by omega) j (by simpa using hj)
 simpa using h1
theorem Wr{Cf:Array Value}(hz:Cf.size=18):((Cf.toList.drop 5).take 12).toArray.toList.length=12:=by simp;omega
structure wJ(w:World)(Cc:Array Value)(bm r:Nat)(L N T Wt A:List af)(left:af→Prop)(bJ:Nat)(wr:World)(v:Value):Prop where
 v:names wr 9 (w.heap.size+4) v (Wt++A)
 n:cB wr (w.heap.size+2) (N++A)
 t:cB wr (w.heap.size+3) T
 q:fS wr prog 9 (plainElem prog 4) bm r L (fun _=>tt) left bJ
 k:Below w.heap.size w wr
 c:wr.heap[w.heap.size]? =some (.cells Cc 25 (0,0))
 a:∀ a∈A,a∈L
 d:∀ a∈L,¬left a→a∈N++A
 rr:w.heap.size+3<r
 bb:w.heap.size+3<bm
theorem wJ.start{w:World}{Cc:Array Value}{bm:Nat}{L N T Wt:List af}{w3 w4:World}{vt:Value}{bJ:Nat}(h1:cB w3 (w.heap.size+3) T)(h2:cB w3 (w.heap.size+2) N)(h3:names w3 9 (w.heap.size+4) vt Wt)(h4:Below w.heap.size w w3)(h5:w3.heap[w.heap.size]? =some (.cells Cc 25 (0,0)))
  (h6:w.heap.size+3<bm) (hr:fS w4 prog 9 (plainElem prog 4) bm w3.heap.size L (fun _=>tt) (·∈L) bJ) (hg:w3.grownBy w4 none):wJ w Cc bm w3.heap.size L N T Wt [] (·∈L) bJ w4 vt:=by
 have hk:=bw.D3 hg []
 have lt:=h1.lt
 refine⟨by rw[YP];exact h3.new hg,by rw[YP];exact iF h2 hk (by simp),iF h1 hk (by simp),hr,h4.trans (hk.below h4.size (by simp)),?_,fun a ha=>(by cases ha),fun a ha hn=>absurd ha hn,lt,h6⟩
 rw[hk.block _ (by omega) (by simp)];exact h5
theorem wJ.next{w:World}{Cc:Array Value}{bm r:Nat}{L N T Wt A:List af}{left aeI:af→Prop}{bJ j5:Nat}{wr w':World}{v:Value}(h:wJ w Cc bm r L N T Wt A left bJ wr v)(hr:fS w' prog 9 (plainElem prog 4) bm r L (fun _=>tt) aeI j5)(hg:wr.grownBy w' (some r)):
  names w' 9 (w.heap.size+4) v (Wt++A)∧cB w' (w.heap.size+2) (N++A)∧cB w' (w.heap.size+3) T∧Below w.heap.size w w'∧w'.heap[w.heap.size]? =some (.cells Cc 25 (0,0)):=by
 have hk:=bw.kY hg
 have rr:=h.rr
 obtain⟨x,y,z,u,hit⟩:=h.q.iter
 exact⟨h.v.grown hg fun cs t f e=>(by rw[hit]at e;cases e),iF h.n hk (by simp;omega),iF h.t hk (by simp;omega),h.k.trans (hk.below h.k.size (by simp;omega)),by rw[hk.block _ (by have:=h.n.lt;omega) (by simp;omega)];exact h.c⟩
theorem wJ.lens{fs:List aq}{x:Ex}{w:World}{Cc:Array Value}{bm r:Nat}{N T Wt A:List af}{left:af→Prop}{bJ:Nat}{wr:World}{v:Value}{s:af}{f:aq}(hU:T5 fs x)(hf:findF fs s=some f){T':List af}(bp:rK fs x N T' (s::Wt))(h:wJ w Cc bm r (fO [] f.body.bS) N T Wt A left bJ wr v):
  A.length≤274877906944∧N.length≤274877906944∧Wt.length≤274877906944:=by
 have h1:=jU (XJ.1 h.n.1).2.1 h.a
 have h2:=DE f.body.bS []
 have h3:=aa8 (x:=x) hf
 have h4:=hU.n
 have h5:=bp.aeK
 have h6:=bp.l
 simp only[ZS,ZA]at *
 omega
theorem Sl:(prog.info? 9).map (fun i=>(i.zero,i.size,i.bytes))=some (some (.string ⟨#[]⟩),1,16):=by kernel_rfl
end Go.Proofs.YthdeaajdmdmfnaaGreatDoor
