/- catalog.Uses: the states of its walk. -/
import Derived.Test.YtcccbdelfhgmlaaGreatDoorCg
import Derived.Test.YtcccbdelfhgmlaaGreatDoorCh
set_option linter.unusedVariables false
set_option linter.unusedSimpArgs false
namespace Go.Proofs.YtcccbdelfhgmlaaGreatDoor
open Go.RowKit Go.Proofs Go.Tb Go.Maps
open Go.Sx (AV Mem RL R M0 Glob)
theorem Fc{w:World}{b:Nat}{C:Array Value}{t:TypeId}{f:Nat×Nat}(h:w.heap[b]? =some (.cells C t f)):∀ j (hj:j<C.toList.length),w.cell? ⟨b,0+j,none⟩=some C.toList[j]:=fun j hj=>by
 rw[Zc]
 have:j<C.size:=by simpa using hj
 simp[World.cell?,h,this]
theorem ah5{w:World}{b:Nat}{C:Array Value}{t:TypeId}{f:Nat×Nat}(h:w.heap[b]? =some (.cells C t f))(o n:Nat)(hn:o+n≤C.size):∀ j (hj:j<((C.toList.drop o).take n).length),w.cell? ⟨b,o+j,none⟩=some ((C.toList.drop o).take n)[j]:=fun j hj=>by
 have h1:j<n:=by rw[ZK]at hj;omega
 have:o+j<C.size:=by omega
 simp[World.cell?,h,this]
structure C8(w:World)(Cc:Array Value)(N T Wt:List ae)(wr:World)(v:Value):Prop where
 v:names wr 9 (w.heap.size+4) v Wt
 n:bV wr (w.heap.size+2) N
 t:bV wr (w.heap.size+3) T
 k:Below w.heap.size w wr
 c:wr.heap[w.heap.size]? =some (.cells Cc 25 (0,0))
theorem Nz{M:Mem}{f:aq}{C:Array Value}(h:RL M f.cells C.toList):RL M f.body.cells (((C.toList.drop 5).take 12)):=by
 have h1:=(h.drop 5).take 12
 have e:(f.cells.drop 5).take 12=f.body.cells:=by rw[congrFun Ex.j1 f.body];rfl
 rw[e]at h1;exact h1
theorem uO{w w':World}{o:Obj}(h:Below (w.heap.size+1) (w.alloc o) w'):Below w.heap.size w w':=
 ⟨h.os,h.tape,h.output,by have:=h.size;simp at this;omega,fun k hk=>(h.block k (by omega)).trans (heap_alloc_old w o hk)⟩
theorem yF{w w':World}{e:TypeId}{lo:Nat}{v:Value}{L:List ae}(h:names w e lo v L)(hb:Below w.heap.size w w'):names w' e lo v L:=
 h.keep fun g cur t f hg=>hb.block g (ZX.1 hg).1
theorem rM{w w':World}{b:Nat}{L:List ae}(h:bV w b L)(hb:Below w.heap.size w w'):bV w' b L:=fW h (aW.yH hb []) (by simp)
theorem GQ(w:World)(o:Obj)(C:Array Value):Below w.heap.size w ((w.alloc o).setRow w.heap.size C):=(R1 w o C []).below (ZR _) (by simp)
theorem NA{w2:World}{b:Nat}{Cf:Array Value}{t:TypeId}{f:Nat×Nat}(o:Obj)(hr:w2.heap[b]? =some (.cells Cf t f))(hz:Cf.size=18):∀ j (hj:j<((Cf.toList.drop 5).take 12).toArray.toList.length),(w2.alloc o).cell? ⟨b,5+j,none⟩=some ((Cf.toList.drop 5).take 12).toArray.toList[j]:=fun j hj=>by
 have h1:=ah5 ((heap_alloc_old w2 o (ZX.1 hr).1).trans hr) 5 12 (by omega) j (by simpa using hj)
 simpa using h1
theorem NB{Cf:Array Value}(hz:Cf.size=18):((Cf.toList.drop 5).take 12).toArray.toList.length=12:=by simp;omega
theorem axC{fs:List aq}{x:Ex}{w:World}{Cc:Array Value}{N T:List ae}{s:ae}{Wt:List ae}{wr:World}{v:Value}{w1 w2:World}{M1:Mem}{Cf:Array Value}{f:aq}(hU:Aj fs x)(hS:C8 w Cc N T (s::Wt) wr v)(aP:iS fs x N T (s::Wt))(dZ:Below wr.heap.size wr w1)
  (vd:Sx.Inv Tryz.prog M1 ⟨w1,M1⟩ [] w1) (dt:Below w1.heap.size w1 w2) (cI:w2.heap.size=w1.heap.size+1) (hf:findF fs s=some f) (nY:RL M1 f.cells Cf.toList):
  Calls Tryz.prog 21 #[.agg ((Cf.toList.drop 5).take 12).toArray,.map (some (w1.heap.size+1)),.map (some (w.heap.size+3))] (w2.alloc (.map #[] 0)) fun e w3=>(∃ v,e= .returned v)∧bV w3 (w1.heap.size+1) (dm [] f.body.aV)∧bV w3 (w.heap.size+3) (dm T f.body.cy)∧bV w3 (w.heap.size+2) N∧
   (∀ vt,names wr 9 (w.heap.size+4) vt Wt→names w3 9 (w.heap.size+4) vt Wt)∧Below w.heap.size w w3∧w3.heap[w.heap.size]? =some (.cells Cc 25 (0,0))∧wr.heap.size<w1.heap.size+1:=by
 have lr:=hS.k.size
 have l1:=dZ.size
 have cW:Below w1.heap.size w1 (w2.alloc (.map #[] 0)):=dt.alloc (by omega) _
 have Bb:Below wr.heap.size wr (w2.alloc (.map #[] 0)):=dZ.trans (gx cW l1)
 have rm:bV (w2.alloc (.map #[] 0)) (w1.heap.size+1) []:=by
  have:=we w2 Tryz.prog 9 4
  rw[cI]at this;exact this
 have xQ:=rM hS.t Bb
 have aeY:=hS.t.lt
 have ayw:=hS.n.lt
 have xR:=hU.n
 have DV:=hU.t
 have l2:=Hy (x:=x) hf
 have l3:=aw1 (x:=x) hf
 have l4:=aP.J2
 refine(Dw f.body.size f.body (ZR _) M1 _ (uP vd cW) ((Cf.toList.drop 5).take 12).toArray (by simpa using Nz nY) (w1.heap.size+1) (w.heap.size+3) [] T rm xQ (by omega) (by simp;omega) (by omega) (fun s hs=>hU.sn s (axz hf hs)) (fun s hs=>hU.st s (axA hf hs))).mono fun e w3 ⟨h1,h2,h3,h4⟩=> ?_
 have aQ:(w2.alloc (.map #[] 0)).heap.size=w1.heap.size+2:=by simp;omega
 have s6:(w2.alloc (.map #[] 0)).heap[w1.heap.size+1]? =some (.map #[] 0):=by rw[← cI];exact heap_alloc_new _ _
 refine⟨h1,h2,h3,fW (rM hS.n Bb) h4 (by simp;omega),fun vt BO=> ?_,?_,?_,by omega⟩
 ·refine(yF BO Bb).keep fun g cur t f hg=>h4.block g (ZX.1 hg).1 fun hm=> ?_
  rcases ZV.1 hm with rfl|hm
  ·rw[s6]at hg;cases hg
  ·rw[ZI]at hm;subst hm
   obtain⟨es,c,he⟩:=xQ.isMap
   rw[he]at hg;cases hg
 ·exact(hS.k.trans (gx Bb lr)).trans (h4.below (by omega) (by simp;omega))
 ·rw[h4.block _ (by omega) (by simp;omega),Bb.block _ (by omega)];exact hS.c
structure gW(w:World)(Cc:Array Value)(bm r:Nat)(L N T Wt A:List ae)(left:ae→Prop)(aI:Nat)(wr:World)(v:Value):Prop where
 v:names wr 9 (w.heap.size+4) v (Wt++A)
 n:bV wr (w.heap.size+2) (N++A)
 t:bV wr (w.heap.size+3) T
 q:fj wr Tryz.prog 9 (plainElem Tryz.prog 4) bm r L (fun _=>tt) left aI
 k:Below w.heap.size w wr
 c:wr.heap[w.heap.size]? =some (.cells Cc 25 (0,0))
 a:∀ a∈A,a∈L
 d:∀ a∈L,¬left a→a∈N++A
 rr:w.heap.size+3<r
 bb:w.heap.size+3<bm
theorem gW.start{w:World}{Cc:Array Value}{bm:Nat}{L N T Wt:List ae}{w3 w4:World}{vt:Value}{aI:Nat}(h1:bV w3 (w.heap.size+3) T)(h2:bV w3 (w.heap.size+2) N)(h3:names w3 9 (w.heap.size+4) vt Wt)(h4:Below w.heap.size w w3)(h5:w3.heap[w.heap.size]? =some (.cells Cc 25 (0,0)))
  (h6:w.heap.size+3<bm) (hr:fj w4 Tryz.prog 9 (plainElem Tryz.prog 4) bm w3.heap.size L (fun _=>tt) (·∈L) aI) (hg:w3.grownBy w4 none):gW w Cc bm w3.heap.size L N T Wt [] (·∈L) aI w4 vt:=by
 have hk:=aW.ET hg []
 have lt:=h1.lt
 refine⟨by rw[Zg];exact h3.new hg,by rw[Zg];exact fW h2 hk (by simp),fW h1 hk (by simp),hr,h4.trans (hk.below h4.size (by simp)),?_,fun a ha=>(by cases ha),fun a ha hn=>absurd ha hn,lt,h6⟩
 rw[hk.block _ (by omega) (by simp)];exact h5
theorem gW.next{w:World}{Cc:Array Value}{bm r:Nat}{L N T Wt A:List ae}{left af6:ae→Prop}{aI eQ:Nat}{wr w':World}{v:Value}(h:gW w Cc bm r L N T Wt A left aI wr v)(hr:fj w' Tryz.prog 9 (plainElem Tryz.prog 4) bm r L (fun _=>tt) af6 eQ)(hg:wr.grownBy w' (some r)):
  names w' 9 (w.heap.size+4) v (Wt++A)∧bV w' (w.heap.size+2) (N++A)∧bV w' (w.heap.size+3) T∧Below w.heap.size w w'∧w'.heap[w.heap.size]? =some (.cells Cc 25 (0,0)):=by
 have hk:=aW.kh hg
 have rr:=h.rr
 obtain⟨x,y,z,u,hit⟩:=h.q.iter
 exact⟨h.v.grown hg fun cs t f e=>(by rw[hit]at e;cases e),fW h.n hk (by simp;omega),fW h.t hk (by simp;omega),h.k.trans (hk.below h.k.size (by simp;omega)),by rw[hk.block _ (by have:=h.n.lt;omega) (by simp;omega)];exact h.c⟩
theorem gW.stay{w:World}{Cc:Array Value}{bm r:Nat}{L N T Wt A:List ae}{left:ae→Prop}{aI eQ:Nat}{wr w':World}{v:Value}{s:ae}(h:gW w Cc bm r L N T Wt A left aI wr v)(hr:fj w' Tryz.prog 9 (plainElem Tryz.prog 4) bm r L (fun _=>tt) (fun x=>left x∧x≠s) eQ)(hg:wr.grownBy w' (some r))(hs:s∈N++A):
  gW w Cc bm r L N T Wt A (fun x=>left x∧x≠s) eQ w' v:=by
 obtain⟨h1,h2,h3,h4,h5⟩:=h.next hr hg
 refine⟨h1,h2,h3,hr,h4,h5,h.a,fun a ha hn=> ?_,h.rr,h.bb⟩
 by_cases e:a=s
 ·rw[e];exact hs
 ·exact h.d a ha fun hl=>hn ⟨hl,e⟩
theorem gW.mid{w:World}{Cc:Array Value}{bm r:Nat}{L N T Wt A:List ae}{left:ae→Prop}{aI eQ:Nat}{wr w' w2:World}{v:Value}{s:ae}(h:gW w Cc bm r L N T Wt A left aI wr v)(hr:fj w' Tryz.prog 9 (plainElem Tryz.prog 4) bm r L (fun _=>tt) (fun x=>left x∧x≠s) eQ)(hg:wr.grownBy w' (some r))(gP:w'.grownBy w2 (some (w.heap.size+2)))(o:Obj):
  names (w2.alloc o) 9 (w.heap.size+4) v (Wt++A)∧w.heap.size+4≤(w2.alloc o).heap.size:=by
 obtain⟨h1,h2,h3,h4,h5⟩:=h.next hr hg
 obtain⟨es,c,hm⟩:=h2.isMap
 have:=h3.lt
 have:=gP.size
 exact⟨(h1.grown gP fun cs t f e=>(by rw[hm]at e;cases e)).alloc o,by simp;omega⟩
theorem gW.more{w:World}{Cc:Array Value}{bm r:Nat}{L N T Wt A:List ae}{left:ae→Prop}{aI eQ:Nat}{wr w' w2 w3:World}{v v':Value}{s:ae}(h:gW w Cc bm r L N T Wt A left aI wr v)(hr:fj w' Tryz.prog 9 (plainElem Tryz.prog 4) bm r L (fun _=>tt) (fun x=>left x∧x≠s) eQ)(hg:wr.grownBy w' (some r))(hs:s∉N++A)(hL:s∈L)
  (rm:bV w2 (w.heap.size+2) (ins (N++A) s)) (gP:w'.grownBy w2 (some (w.heap.size+2))) (o:Obj) (hv:names w3 9 (w.heap.size+4) v' (Wt++A++[s])) (hc:si (w.heap.size+4) (w2.alloc o) w3):
  gW w Cc bm r L N T Wt (A++[s]) (fun x=>left x∧x≠s) eQ w3 v':=by
 obtain⟨h1,h2,h3,h4,h5⟩:=h.next hr hg
 have hk:=aW.kh gP
 have rr:=h.rr
 have bb:=h.bb
 have b4:=h4.size
 have lt3:=h3.lt
 have sz2:=gP.size
 have aY:=hr.kept gP (by simp;omega) (by simp;omega)
 have fz:=(aY.kept (World.grownBy_alloc w2 o none) (by simp) (by simp)).qJ hc
 have BJ:=(dy.alloc rm o).qJ hc
 have Ef:=((fW h3 hk (by simp)).alloc o).qJ hc
 have e1:ins (N++A) s=N++(A++[s]):=by unfold ins;rw[Z9 hs,Zz]
 rw[e1]at BJ
 have k2:Below w.heap.size w' w2:=hk.below b4 (by simp)
 have k3:Below w.heap.size w2 (w2.alloc o):=⟨rfl,rfl,rfl,by simp,fun k hk=>heap_alloc_old w2 o (by omega)⟩
 have k4:Below w.heap.size (w2.alloc o) w3:=⟨hc.os,hc.tape,hc.output,hc.size,fun k hk=>hc.below k (by omega) (by simp;omega)⟩
 refine⟨by rw[← Zz];exact hv,BJ,Ef,fz,((h4.trans k2).trans k3).trans k4,?_,fun a ha=> ?_,fun a ha hn=> ?_,rr,bb⟩
 ·rw[hc.below _ (by omega) (by simp;omega),heap_alloc_old _ _ (by omega),hk.block _ (by omega) (by simp)];exact h5
 ·rcases ZG.1 ha with ha|ha
  ·exact h.a a ha
  ·rw[ZI]at ha;subst ha;exact hL
 ·by_cases e:a=s
  ·subst e;simp
  ·have:=h.d a ha fun hl=>hn ⟨hl,e⟩
   rw[← Zz];exact ZN _ this
theorem gW.end_{fs:List aq}{x:Ex}{w:World}{Cc:Array Value}{bm r:Nat}{N T Wt A:List ae}{left:ae→Prop}{aI:Nat}{wr:World}{v:Value}{s:ae}{f:aq}(aP:iS fs x N T (s::Wt))(hf:findF fs s=some f)(h:gW w Cc bm r (dm [] f.body.aV) N (dm T f.body.cy) Wt A left aI wr v)(hd:∀ s:ae,s.size≤maxLen→¬left s):
  C8 w Cc (N++A) (dm T f.body.cy) (Wt++A) wr v∧iS fs x (N++A) (dm T f.body.cy) (Wt++A):=by
 refine⟨⟨h.v,h.n,h.t,h.k,h.c⟩,aP.more hf (fun a ha=> ?_) (fun a ha=> ?_) (fun t=>rz) h.n.1 (Er aP.nt)⟩
 ·rcases rz.1 (h.a a ha)with h1|h1
  ·exact h1
  ·cases h1
 ·have h1:a∈dm [] f.body.aV:=rz.2 (.inl ha)
  exact h.d a h1 (hd a (h.q.2.1 a h1))
theorem gW.lens{fs:List aq}{x:Ex}{w:World}{Cc:Array Value}{bm r:Nat}{N T Wt A:List ae}{left:ae→Prop}{aI:Nat}{wr:World}{v:Value}{s:ae}{f:aq}(hU:Aj fs x)(hf:findF fs s=some f){T':List ae}(aP:iS fs x N T' (s::Wt))(h:gW w Cc bm r (dm [] f.body.aV) N T Wt A left aI wr v):
  A.length≤274877906944∧N.length≤274877906944∧Wt.length≤274877906944:=by
 have h1:=iN (Yh.1 h.n.1).2.1 h.a
 have h2:=BR f.body.aV []
 have h3:=Hy (x:=x) hf
 have h4:=hU.n
 have h5:=aP.J1
 have h6:=aP.l
 simp only[Z6,ZW]at *
 omega
end Go.Proofs.YtcccbdelfhgmlaaGreatDoor
