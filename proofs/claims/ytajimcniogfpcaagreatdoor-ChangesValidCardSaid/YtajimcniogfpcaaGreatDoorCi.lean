/- catalog.Uses: the states of its walk. -/
import Derived.Test.YtajimcniogfpcaaGreatDoorCg
import Derived.Test.YtajimcniogfpcaaGreatDoorCh
set_option linter.unusedVariables false
set_option linter.unusedSimpArgs false
namespace Go.Proofs.YtajimcniogfpcaaGreatDoor
open _root_.Go.Proofs.Tryz
open Go.RowKit Go.Proofs Go.Tb Go.Maps
open Go.Sx (AV Mem RL R M0 Glob)
theorem Uv{w:World}{b:Nat}{C:Array Value}{t:TypeId}{f:Nat×Nat}(h:w.heap[b]? =some (.cells C t f)):∀ j (hj:j<C.toList.length),w.cell? ⟨b,0+j,none⟩=some C.toList[j]:=fun j hj=>by
 rw[ZA]
 have:j<C.size:=by simpa using hj
 simp[World.cell?,h,this]
theorem ai9{w:World}{b:Nat}{C:Array Value}{t:TypeId}{f:Nat×Nat}(h:w.heap[b]? =some (.cells C t f))(o n:Nat)(hn:o+n≤C.size):∀ j (hj:j<((C.toList.drop o).take n).length),w.cell? ⟨b,o+j,none⟩=some ((C.toList.drop o).take n)[j]:=fun j hj=>by
 have h1:j<n:=by rw[ZQ]at hj;omega
 have:o+j<C.size:=by omega
 simp[World.cell?,h,this]
structure NK(w:World)(Cc:Array Value)(N T Wt:List ae)(wr:World)(v:Value):Prop where
 v:names wr 9 (w.heap.size+4) v Wt
 n:cy wr (w.heap.size+2) N
 t:cy wr (w.heap.size+3) T
 k:Below w.heap.size w wr
 c:wr.heap[w.heap.size]? =some (.cells Cc 25 (0,0))
theorem Ob{M:Mem}{f:aj}{C:Array Value}(h:RL M f.cells C.toList):RL M f.body.cells (((C.toList.drop 5).take 12)):=by
 have h1:=(h.drop 5).take 12
 have e:(f.cells.drop 5).take 12=f.body.cells:=by rw[congrFun Ex.oP f.body];rfl
 rw[e]at h1;exact h1
theorem Bh{w w':World}{o:Obj}(h:Below (w.heap.size+1) (w.alloc o) w'):Below w.heap.size w w':=
 ⟨h.os,h.tape,h.output,by have:=h.size;simp at this;omega,fun k hk=>(h.block k (by omega)).trans (heap_alloc_old w o hk)⟩
theorem LB{w w':World}{e:TypeId}{lo:Nat}{v:Value}{L:List ae}(h:names w e lo v L)(hb:Below w.heap.size w w'):names w' e lo v L:=
 h.aQ fun g cur t f hg=>hb.block g (ZX.1 hg).1
theorem C9{w w':World}{b:Nat}{L:List ae}(h:cy w b L)(hb:Below w.heap.size w w'):cy w' b L:=iM h (bB.FI hb []) (by simp)
theorem N8(w:World)(o:Obj)(C:Array Value):Below w.heap.size w ((w.alloc o).setRow w.heap.size C):=(Ss w o C []).below (ZM _) (by simp)
theorem ab4{w2:World}{b:Nat}{Cf:Array Value}{t:TypeId}{f:Nat×Nat}(o:Obj)(hr:w2.heap[b]? =some (.cells Cf t f))(hz:Cf.size=18):∀ j (hj:j<((Cf.toList.drop 5).take 12).toArray.toList.length),(w2.alloc o).cell? ⟨b,5+j,none⟩=some ((Cf.toList.drop 5).take 12).toArray.toList[j]:=fun j hj=>by
 have h1:=ai9 ((heap_alloc_old w2 o (ZX.1 hr).1).trans hr) 5 12 (by omega) j (by simpa using hj)
 simpa using h1
theorem ab5{Cf:Array Value}(hz:Cf.size=18):((Cf.toList.drop 5).take 12).toArray.toList.length=12:=by simp;omega
structure kr(w:World)(Cc:Array Value)(bm r:Nat)(L N T Wt A:List ae)(left:ae→Prop)(bu:Nat)(wr:World)(v:Value):Prop where
 v:names wr 9 (w.heap.size+4) v (Wt++A)
 n:cy wr (w.heap.size+2) (N++A)
 t:cy wr (w.heap.size+3) T
 q:fM wr prog 9 (plainElem prog 4) bm r L (fun _=>tt) left bu
 k:Below w.heap.size w wr
 c:wr.heap[w.heap.size]? =some (.cells Cc 25 (0,0))
 a:∀ a∈A,a∈L
 d:∀ a∈L,¬left a→a∈N++A
 rr:w.heap.size+3<r
 bb:w.heap.size+3<bm
theorem kr.start{w:World}{Cc:Array Value}{bm:Nat}{L N T Wt:List ae}{w3 w4:World}{vt:Value}{bu:Nat}(h1:cy w3 (w.heap.size+3) T)(h2:cy w3 (w.heap.size+2) N)(h3:names w3 9 (w.heap.size+4) vt Wt)(h4:Below w.heap.size w w3)(h5:w3.heap[w.heap.size]? =some (.cells Cc 25 (0,0)))
  (h6:w.heap.size+3<bm) (hr:fM w4 prog 9 (plainElem prog 4) bm w3.heap.size L (fun _=>tt) (·∈L) bu) (hg:w3.grownBy w4 none):kr w Cc bm w3.heap.size L N T Wt [] (·∈L) bu w4 vt:=by
 have hk:=bB.FJ hg []
 have lt:=h1.lt
 refine⟨by rw[YX];exact h3.new hg,by rw[YX];exact iM h2 hk (by simp),iM h1 hk (by simp),hr,h4.trans (hk.below h4.size (by simp)),?_,fun a ha=>(by cases ha),fun a ha hn=>absurd ha hn,lt,h6⟩
 rw[hk.block _ (by omega) (by simp)];exact h5
theorem kr.next{w:World}{Cc:Array Value}{bm r:Nat}{L N T Wt A:List ae}{left aho:ae→Prop}{bu fS:Nat}{wr w':World}{v:Value}(h:kr w Cc bm r L N T Wt A left bu wr v)(hr:fM w' prog 9 (plainElem prog 4) bm r L (fun _=>tt) aho fS)(hg:wr.grownBy w' (some r)):
  names w' 9 (w.heap.size+4) v (Wt++A)∧cy w' (w.heap.size+2) (N++A)∧cy w' (w.heap.size+3) T∧Below w.heap.size w w'∧w'.heap[w.heap.size]? =some (.cells Cc 25 (0,0)):=by
 have hk:=bB.lq hg
 have rr:=h.rr
 obtain⟨x,y,z,u,hit⟩:=h.q.iter
 exact⟨h.v.grown hg fun cs t f e=>(by rw[hit]at e;cases e),iM h.n hk (by simp;omega),iM h.t hk (by simp;omega),h.k.trans (hk.below h.k.size (by simp;omega)),by rw[hk.block _ (by have:=h.n.lt;omega) (by simp;omega)];exact h.c⟩
theorem kr.stay{w:World}{Cc:Array Value}{bm r:Nat}{L N T Wt A:List ae}{left:ae→Prop}{bu fS:Nat}{wr w':World}{v:Value}{s:ae}(h:kr w Cc bm r L N T Wt A left bu wr v)(hr:fM w' prog 9 (plainElem prog 4) bm r L (fun _=>tt) (fun x=>left x∧x≠s) fS)(hg:wr.grownBy w' (some r))(hs:s∈N++A):
  kr w Cc bm r L N T Wt A (fun x=>left x∧x≠s) fS w' v:=by
 obtain⟨h1,h2,h3,h4,h5⟩:=h.next hr hg
 refine⟨h1,h2,h3,hr,h4,h5,h.a,fun a ha hn=> ?_,h.rr,h.bb⟩
 by_cases e:a=s
 ·rw[e];exact hs
 ·exact h.d a ha fun hl=>hn ⟨hl,e⟩
theorem kr.mid{w:World}{Cc:Array Value}{bm r:Nat}{L N T Wt A:List ae}{left:ae→Prop}{bu fS:Nat}{wr w' w2:World}{v:Value}{s:ae}(h:kr w Cc bm r L N T Wt A left bu wr v)(hr:fM w' prog 9 (plainElem prog 4) bm r L (fun _=>tt) (fun x=>left x∧x≠s) fS)(hg:wr.grownBy w' (some r))(jC:w'.grownBy w2 (some (w.heap.size+2)))(o:Obj):
  names (w2.alloc o) 9 (w.heap.size+4) v (Wt++A)∧w.heap.size+4≤(w2.alloc o).heap.size:=by
 obtain⟨h1,h2,h3,h4,h5⟩:=h.next hr hg
 obtain⟨es,c,hm⟩:=h2.isMap
 have:=h3.lt
 have:=jC.size
 exact⟨(h1.grown jC fun cs t f e=>(by rw[hm]at e;cases e)).alloc o,by simp;omega⟩
theorem kr.more{w:World}{Cc:Array Value}{bm r:Nat}{L N T Wt A:List ae}{left:ae→Prop}{bu fS:Nat}{wr w' w2 w3:World}{v v':Value}{s:ae}(h:kr w Cc bm r L N T Wt A left bu wr v)(hr:fM w' prog 9 (plainElem prog 4) bm r L (fun _=>tt) (fun x=>left x∧x≠s) fS)(hg:wr.grownBy w' (some r))(hs:s∉N++A)(hL:s∈L)
  (rW:cy w2 (w.heap.size+2) (ins (N++A) s)) (jC:w'.grownBy w2 (some (w.heap.size+2))) (o:Obj) (hv:names w3 9 (w.heap.size+4) v' (Wt++A++[s])) (hc:tB (w.heap.size+4) (w2.alloc o) w3):
  kr w Cc bm r L N T Wt (A++[s]) (fun x=>left x∧x≠s) fS w3 v':=by
 obtain⟨h1,h2,h3,h4,h5⟩:=h.next hr hg
 have hk:=bB.lq jC
 have rr:=h.rr
 have bb:=h.bb
 have b4:=h4.size
 have lt3:=h3.lt
 have sz2:=jC.size
 have eo:=hr.kept jC (by simp;omega) (by simp;omega)
 have lh:=(eo.kept (World.grownBy_alloc w2 o none) (by simp) (by simp)).rB hc
 have Cy:=(dC.alloc rW o).rB hc
 have ht3:=((iM h3 hk (by simp)).alloc o).rB hc
 have e1:ins (N++A) s=N++(A++[s]):=by unfold ins;rw[Z5 hs,Zt]
 rw[e1]at Cy
 have k2:Below w.heap.size w' w2:=hk.below b4 (by simp)
 have k3:Below w.heap.size w2 (w2.alloc o):=⟨rfl,rfl,rfl,by simp,fun k hk=>heap_alloc_old w2 o (by omega)⟩
 have k4:Below w.heap.size (w2.alloc o) w3:=⟨hc.os,hc.tape,hc.output,hc.size,fun k hk=>hc.below k (by omega) (by simp;omega)⟩
 refine⟨by rw[← Zt];exact hv,Cy,ht3,lh,((h4.trans k2).trans k3).trans k4,?_,fun a ha=> ?_,fun a ha hn=> ?_,rr,bb⟩
 ·rw[hc.below _ (by omega) (by simp;omega),heap_alloc_old _ _ (by omega),hk.block _ (by omega) (by simp)];exact h5
 ·rcases ZJ.1 ha with ha|ha
  ·exact h.a a ha
  ·rw[Zm]at ha;subst ha;exact hL
 ·by_cases e:a=s
  ·subst e;simp
  ·have:=h.d a ha fun hl=>hn ⟨hl,e⟩
   rw[← Zt];exact ZI _ this
theorem kr.end_{fs:List aj}{x:Ex}{w:World}{Cc:Array Value}{bm r:Nat}{N T Wt A:List ae}{left:ae→Prop}{bu:Nat}{wr:World}{v:Value}{s:ae}{f:aj}(bw:ku fs x N T (s::Wt))(hf:findF fs s=some f)(h:kr w Cc bm r (eJ [] f.body.aW) N (eJ T f.body.bU) Wt A left bu wr v)(hd:∀ s:ae,s.size≤maxLen→¬left s):
  NK w Cc (N++A) (eJ T f.body.bU) (Wt++A) wr v∧ku fs x (N++A) (eJ T f.body.bU) (Wt++A):=by
 refine⟨⟨h.v,h.n,h.t,h.k,h.c⟩,bw.more hf (fun a ha=> ?_) (fun a ha=> ?_) (fun t=>CJ) h.n.1 (RD bw.nt)⟩
 ·rcases CJ.1 (h.a a ha)with h1|h1
  ·exact h1
  ·cases h1
 ·have h1:a∈eJ [] f.body.aW:=CJ.2 (.inl ha)
  exact h.d a h1 (hd a (h.q.2.1 a h1))
theorem kr.lens{fs:List aj}{x:Ex}{w:World}{Cc:Array Value}{bm r:Nat}{N T Wt A:List ae}{left:ae→Prop}{bu:Nat}{wr:World}{v:Value}{s:ae}{f:aj}(hU:H8 fs x)(hf:findF fs s=some f){T':List ae}(bw:ku fs x N T' (s::Wt))(h:kr w Cc bm r (eJ [] f.body.aW) N T Wt A left bu wr v):
  A.length≤274877906944∧N.length≤274877906944∧Wt.length≤274877906944:=by
 have h1:=ic (Yd.1 h.n.1).2.1 h.a
 have h2:=Fe f.body.aW []
 have h3:=Px (x:=x) hf
 have h4:=hU.n
 have h5:=bw.ahp
 have h6:=bw.l
 simp only[Z8,Z0]at *
 omega
theorem My:(prog.info? 9).map (fun i=>(i.zero,i.size,i.bytes))=some (some (.string ⟨#[]⟩),1,16):=by kernel_rfl
end Go.Proofs.YtajimcniogfpcaaGreatDoor
