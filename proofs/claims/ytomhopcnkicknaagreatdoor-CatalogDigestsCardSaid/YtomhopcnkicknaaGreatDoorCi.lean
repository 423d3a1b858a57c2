/- catalog.Uses: the states of its walk. -/
import Derived.Test.YtomhopcnkicknaaGreatDoorCg
import Derived.Test.YtomhopcnkicknaaGreatDoorCh
set_option linter.unusedVariables false
set_option linter.unusedSimpArgs false
namespace Go.Proofs.YtomhopcnkicknaaGreatDoor
open _root_.Go.Proofs.Tryz
open Go.RowKit Go.Proofs Go.Tb Go.Maps
open Go.Sx (AV Mem RL R M0 Glob)
theorem Dg{w:World}{b:Nat}{C:Array Value}{t:TypeId}{f:Nat×Nat}(h:w.heap[b]? =some (.cells C t f)):∀ j (hj:j<C.toList.length),w.cell? ⟨b,0+j,none⟩=some C.toList[j]:=fun j hj=>by
 rw[Zl]
 have:j<C.size:=by simpa using hj
 simp[World.cell?,h,this]
theorem ahQ{w:World}{b:Nat}{C:Array Value}{t:TypeId}{f:Nat×Nat}(h:w.heap[b]? =some (.cells C t f))(o n:Nat)(hn:o+n≤C.size):∀ j (hj:j<((C.toList.drop o).take n).length),w.cell? ⟨b,o+j,none⟩=some ((C.toList.drop o).take n)[j]:=fun j hj=>by
 have h1:j<n:=by rw[Z4]at hj;omega
 have:o+j<C.size:=by omega
 simp[World.cell?,h,this]
structure A1(w:World)(Cc:Array Value)(N T Wt:List ae)(wr:World)(v:Value):Prop where
 v:names wr 9 (w.heap.size+4) v Wt
 n:bN wr (w.heap.size+2) N
 t:bN wr (w.heap.size+3) T
 k:Below w.heap.size w wr
 c:wr.heap[w.heap.size]? =some (.cells Cc 25 (0,0))
theorem Kq{M:Mem}{f:aj}{C:Array Value}(h:RL M f.cells C.toList):RL M f.body.cells (((C.toList.drop 5).take 12)):=by
 have h1:=(h.drop 5).take 12
 have e:(f.cells.drop 5).take 12=f.body.cells:=by rw[congrFun Ex.lj f.body];rfl
 rw[e]at h1;exact h1
theorem sI{w w':World}{o:Obj}(h:Below (w.heap.size+1) (w.alloc o) w'):Below w.heap.size w w':=
 ⟨h.os,h.tape,h.output,by have:=h.size;simp at this;omega,fun k hk=>(h.block k (by omega)).trans (heap_alloc_old w o hk)⟩
theorem wx{w w':World}{e:TypeId}{lo:Nat}{v:Value}{L:List ae}(h:names w e lo v L)(hb:Below w.heap.size w w'):names w' e lo v L:=
 h.bY fun g cur t f hg=>hb.block g (Z0.1 hg).1
theorem qo{w w':World}{b:Nat}{L:List ae}(h:bN w b L)(hb:Below w.heap.size w w'):bN w' b L:=fE h (aZ.wz hb []) (by simp)
theorem uT(w:World)(o:Obj)(C:Array Value):Below w.heap.size w ((w.alloc o).setRow w.heap.size C):=(Od w o C []).below (ZR _) (by simp)
theorem Kr{w2:World}{b:Nat}{Cf:Array Value}{t:TypeId}{f:Nat×Nat}(o:Obj)(hr:w2.heap[b]? =some (.cells Cf t f))(hz:Cf.size=18):∀ j (hj:j<((Cf.toList.drop 5).take 12).toArray.toList.length),(w2.alloc o).cell? ⟨b,5+j,none⟩=some ((Cf.toList.drop 5).take 12).toArray.toList[j]:=fun j hj=>by
 have h1:=ahQ ((heap_alloc_old w2 o (Z0.1 hr).1).trans hr) 5 12 (by omega) j (by simpa using hj)
 simpa using h1
theorem Ks{Cf:Array Value}(hz:Cf.size=18):((Cf.toList.drop 5).take 12).toArray.toList.length=12:=by simp;omega
theorem aMC{fs:List aj}{x:Ex}{w:World}{Cc:Array Value}{N T:List ae}{s:ae}{Wt:List ae}{wr:World}{v:Value}{w1 w2:World}{M1:Mem}{Cf:Array Value}{f:aj}(hU:xJ fs x)(hS:A1 w Cc N T (s::Wt) wr v)(aS:ia fs x N T (s::Wt))(cP:Below wr.heap.size wr w1)
  (BP:Sx.Inv prog M1 ⟨w1,M1⟩ [] w1) (c9:Below w1.heap.size w1 w2) (dL:w2.heap.size=w1.heap.size+1) (hf:findF fs s=some f) (mY:RL M1 f.cells Cf.toList):
  Calls prog 52 #[.agg ((Cf.toList.drop 5).take 12).toArray,.map (some (w1.heap.size+1)),.map (some (w.heap.size+3))] (w2.alloc (.map #[] 0)) fun e w3=>(∃ v,e= .returned v)∧bN w3 (w1.heap.size+1) (cR [] f.body.aR)∧bN w3 (w.heap.size+3) (cR T f.body.bO)∧bN w3 (w.heap.size+2) N∧
   (∀ vt,names wr 9 (w.heap.size+4) vt Wt→names w3 9 (w.heap.size+4) vt Wt)∧Below w.heap.size w w3∧w3.heap[w.heap.size]? =some (.cells Cc 25 (0,0))∧wr.heap.size<w1.heap.size+1:=by
 have lr:=hS.k.size
 have l1:=cP.size
 have cx:Below w1.heap.size w1 (w2.alloc (.map #[] 0)):=c9.alloc (by omega) _
 have yu:Below wr.heap.size wr (w2.alloc (.map #[] 0)):=cP.trans (fR cx l1)
 have pU:bN (w2.alloc (.map #[] 0)) (w1.heap.size+1) []:=by
  have:=ui w2 prog 9 4
  rw[dL]at this;exact this
 have MA:=qo hS.t yu
 have ac1:=hS.t.lt
 have aNq:=hS.n.lt
 have vC:=hU.n
 have BT:=hU.t
 have l2:=Fb (x:=x) hf
 have l3:=aMf (x:=x) hf
 have l4:=aS.Hq
 refine(Bx f.body.size f.body (ZR _) M1 _ (sJ BP cx) ((Cf.toList.drop 5).take 12).toArray (by simpa using Kq mY) (w1.heap.size+1) (w.heap.size+3) [] T pU MA (by omega) (by simp;omega) (by omega) (fun s hs=>hU.sn s (aMz hf hs)) (fun s hs=>hU.st s (aMA hf hs))).mono fun e w3 ⟨h1,h2,h3,h4⟩=> ?_
 have bC:(w2.alloc (.map #[] 0)).heap.size=w1.heap.size+2:=by simp;omega
 have rq:(w2.alloc (.map #[] 0)).heap[w1.heap.size+1]? =some (.map #[] 0):=by rw[← dL];exact heap_alloc_new _ _
 refine⟨h1,h2,h3,fE (qo hS.n yu) h4 (by simp;omega),fun vt y8=> ?_,?_,?_,by omega⟩
 ·refine(wx y8 yu).bY fun g cur t f hg=>h4.block g (Z0.1 hg).1 fun hm=> ?_
  rcases ZQ.1 hm with rfl|hm
  ·rw[rq]at hg;cases hg
  ·rw[Zq]at hm;subst hm
   obtain⟨es,c,he⟩:=MA.isMap
   rw[he]at hg;cases hg
 ·exact(hS.k.trans (fR yu lr)).trans (h4.below (by omega) (by simp;omega))
 ·rw[h4.block _ (by omega) (by simp;omega),yu.block _ (by omega)];exact hS.c
structure gy(w:World)(Cc:Array Value)(bm r:Nat)(L N T Wt A:List ae)(left:ae→Prop)(aY:Nat)(wr:World)(v:Value):Prop where
 v:names wr 9 (w.heap.size+4) v (Wt++A)
 n:bN wr (w.heap.size+2) (N++A)
 t:bN wr (w.heap.size+3) T
 q:eQ wr prog 9 (plainElem prog 4) bm r L (fun _=>tt) left aY
 k:Below w.heap.size w wr
 c:wr.heap[w.heap.size]? =some (.cells Cc 25 (0,0))
 a:∀ a∈A,a∈L
 d:∀ a∈L,¬left a→a∈N++A
 rr:w.heap.size+3<r
 bb:w.heap.size+3<bm
theorem gy.start{w:World}{Cc:Array Value}{bm:Nat}{L N T Wt:List ae}{w3 w4:World}{vt:Value}{aY:Nat}(h1:bN w3 (w.heap.size+3) T)(h2:bN w3 (w.heap.size+2) N)(h3:names w3 9 (w.heap.size+4) vt Wt)(h4:Below w.heap.size w w3)(h5:w3.heap[w.heap.size]? =some (.cells Cc 25 (0,0)))
  (h6:w.heap.size+3<bm) (hr:eQ w4 prog 9 (plainElem prog 4) bm w3.heap.size L (fun _=>tt) (·∈L) aY) (hg:w3.grownBy w4 none):gy w Cc bm w3.heap.size L N T Wt [] (·∈L) aY w4 vt:=by
 have hk:=aZ.C4 hg []
 have lt:=h1.lt
 refine⟨by rw[Zb];exact h3.new hg,by rw[Zb];exact fE h2 hk (by simp),fE h1 hk (by simp),hr,h4.trans (hk.below h4.size (by simp)),?_,fun a ha=>(by cases ha),fun a ha hn=>absurd ha hn,lt,h6⟩
 rw[hk.block _ (by omega) (by simp)];exact h5
theorem gy.next{w:World}{Cc:Array Value}{bm r:Nat}{L N T Wt A:List ae}{left af5:ae→Prop}{aY eD:Nat}{wr w':World}{v:Value}(h:gy w Cc bm r L N T Wt A left aY wr v)(hr:eQ w' prog 9 (plainElem prog 4) bm r L (fun _=>tt) af5 eD)(hg:wr.grownBy w' (some r)):
  names w' 9 (w.heap.size+4) v (Wt++A)∧bN w' (w.heap.size+2) (N++A)∧bN w' (w.heap.size+3) T∧Below w.heap.size w w'∧w'.heap[w.heap.size]? =some (.cells Cc 25 (0,0)):=by
 have hk:=aZ.j7 hg
 have rr:=h.rr
 obtain⟨x,y,z,u,hit⟩:=h.q.iter
 exact⟨h.v.grown hg fun cs t f e=>(by rw[hit]at e;cases e),fE h.n hk (by simp;omega),fE h.t hk (by simp;omega),h.k.trans (hk.below h.k.size (by simp;omega)),by rw[hk.block _ (by have:=h.n.lt;omega) (by simp;omega)];exact h.c⟩
theorem gy.stay{w:World}{Cc:Array Value}{bm r:Nat}{L N T Wt A:List ae}{left:ae→Prop}{aY eD:Nat}{wr w':World}{v:Value}{s:ae}(h:gy w Cc bm r L N T Wt A left aY wr v)(hr:eQ w' prog 9 (plainElem prog 4) bm r L (fun _=>tt) (fun x=>left x∧x≠s) eD)(hg:wr.grownBy w' (some r))(hs:s∈N++A):
  gy w Cc bm r L N T Wt A (fun x=>left x∧x≠s) eD w' v:=by
 obtain⟨h1,h2,h3,h4,h5⟩:=h.next hr hg
 refine⟨h1,h2,h3,hr,h4,h5,h.a,fun a ha hn=> ?_,h.rr,h.bb⟩
 by_cases e:a=s
 ·rw[e];exact hs
 ·exact h.d a ha fun hl=>hn ⟨hl,e⟩
theorem gy.mid{w:World}{Cc:Array Value}{bm r:Nat}{L N T Wt A:List ae}{left:ae→Prop}{aY eD:Nat}{wr w' w2:World}{v:Value}{s:ae}(h:gy w Cc bm r L N T Wt A left aY wr v)(hr:eQ w' prog 9 (plainElem prog 4) bm r L (fun _=>tt) (fun x=>left x∧x≠s) eD)(hg:wr.grownBy w' (some r))(il:w'.grownBy w2 (some (w.heap.size+2)))(o:Obj):
  names (w2.alloc o) 9 (w.heap.size+4) v (Wt++A)∧w.heap.size+4≤(w2.alloc o).heap.size:=by
 obtain⟨h1,h2,h3,h4,h5⟩:=h.next hr hg
 obtain⟨es,c,hm⟩:=h2.isMap
 have:=h3.lt
 have:=il.size
 exact⟨(h1.grown il fun cs t f e=>(by rw[hm]at e;cases e)).alloc o,by simp;omega⟩
theorem gy.more{w:World}{Cc:Array Value}{bm r:Nat}{L N T Wt A:List ae}{left:ae→Prop}{aY eD:Nat}{wr w' w2 w3:World}{v v':Value}{s:ae}(h:gy w Cc bm r L N T Wt A left aY wr v)(hr:eQ w' prog 9 (plainElem prog 4) bm r L (fun _=>tt) (fun x=>left x∧x≠s) eD)(hg:wr.grownBy w' (some r))(hs:s∉N++A)(hL:s∈L)
  (pU:bN w2 (w.heap.size+2) (ins (N++A) s)) (il:w'.grownBy w2 (some (w.heap.size+2))) (o:Obj) (hv:names w3 9 (w.heap.size+4) v' (Wt++A++[s])) (hc:qI (w.heap.size+4) (w2.alloc o) w3):
  gy w Cc bm r L N T Wt (A++[s]) (fun x=>left x∧x≠s) eD w3 v':=by
 obtain⟨h1,h2,h3,h4,h5⟩:=h.next hr hg
 have hk:=aZ.j7 il
 have rr:=h.rr
 have bb:=h.bb
 have b4:=h4.size
 have lt3:=h3.lt
 have sz2:=il.size
 have dr:=hr.kept il (by simp;omega) (by simp;omega)
 have jS:=(dr.kept (World.grownBy_alloc w2 o none) (by simp) (by simp)).pE hc
 have y2:=(dh.alloc pU o).pE hc
 have Cr:=((fE h3 hk (by simp)).alloc o).pE hc
 have e1:ins (N++A) s=N++(A++[s]):=by unfold ins;rw[Z6 hs,ZB]
 rw[e1]at y2
 have k2:Below w.heap.size w' w2:=hk.below b4 (by simp)
 have k3:Below w.heap.size w2 (w2.alloc o):=⟨rfl,rfl,rfl,by simp,fun k hk=>heap_alloc_old w2 o (by omega)⟩
 have k4:Below w.heap.size (w2.alloc o) w3:=⟨hc.os,hc.tape,hc.output,hc.size,fun k hk=>hc.below k (by omega) (by simp;omega)⟩
 refine⟨by rw[← ZB];exact hv,y2,Cr,jS,((h4.trans k2).trans k3).trans k4,?_,fun a ha=> ?_,fun a ha hn=> ?_,rr,bb⟩
 ·rw[hc.below _ (by omega) (by simp;omega),heap_alloc_old _ _ (by omega),hk.block _ (by omega) (by simp)];exact h5
 ·rcases ZI.1 ha with ha|ha
  ·exact h.a a ha
  ·rw[Zq]at ha;subst ha;exact hL
 ·by_cases e:a=s
  ·subst e;simp
  ·have:=h.d a ha fun hl=>hn ⟨hl,e⟩
   rw[← ZB];exact ZK _ this
theorem gy.end_{fs:List aj}{x:Ex}{w:World}{Cc:Array Value}{bm r:Nat}{N T Wt A:List ae}{left:ae→Prop}{aY:Nat}{wr:World}{v:Value}{s:ae}{f:aj}(aS:ia fs x N T (s::Wt))(hf:findF fs s=some f)(h:gy w Cc bm r (cR [] f.body.aR) N (cR T f.body.bO) Wt A left aY wr v)(hd:∀ s:ae,s.size≤maxLen→¬left s):
  A1 w Cc (N++A) (cR T f.body.bO) (Wt++A) wr v∧ia fs x (N++A) (cR T f.body.bO) (Wt++A):=by
 refine⟨⟨h.v,h.n,h.t,h.k,h.c⟩,aS.more hf (fun a ha=> ?_) (fun a ha=> ?_) (fun t=>qa) h.n.1 (CF aS.nt)⟩
 ·rcases qa.1 (h.a a ha)with h1|h1
  ·exact h1
  ·cases h1
 ·have h1:a∈cR [] f.body.aR:=qa.2 (.inl ha)
  exact h.d a h1 (hd a (h.q.2.1 a h1))
theorem gy.lens{fs:List aj}{x:Ex}{w:World}{Cc:Array Value}{bm r:Nat}{N T Wt A:List ae}{left:ae→Prop}{aY:Nat}{wr:World}{v:Value}{s:ae}{f:aj}(hU:xJ fs x)(hf:findF fs s=some f){T':List ae}(aS:ia fs x N T' (s::Wt))(h:gy w Cc bm r (cR [] f.body.aR) N T Wt A left aY wr v):
  A.length≤274877906944∧N.length≤274877906944∧Wt.length≤274877906944:=by
 have h1:=gn (XA.1 h.n.1).2.1 h.a
 have h2:=zF f.body.aR []
 have h3:=Fb (x:=x) hf
 have h4:=hU.n
 have h5:=aS.Ho
 have h6:=aS.l
 simp only[Z8,Z5]at *
 omega
theorem Dv:(prog.info? 9).map (fun i=>(i.zero,i.size,i.bytes))=some (some (.string ⟨#[]⟩),1,16):=by kernel_rfl
end Go.Proofs.YtomhopcnkicknaaGreatDoor
