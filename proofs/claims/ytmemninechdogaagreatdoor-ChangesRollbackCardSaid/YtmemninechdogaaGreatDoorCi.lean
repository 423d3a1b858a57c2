import Derived.Test.YtmemninechdogaaGreatDoorCg
import Derived.Test.YtmemninechdogaaGreatDoorCh
set_option linter.all false
namespace Go.Proofs.YtmemninechdogaaGreatDoor
open _root_.Go.Proofs.Tryz
open Go.RowKit Go.Proofs Go.Tb Go.Maps
open Go.Sx (AV Mem RL R M0 Glob)
theorem ajk{w:World}{b:Nat}{C:Array Value}{t:TypeId}{f:Nat×Nat}(h:w.heap[b]? =some (.cells C t f)):∀j (hj:j<C.toList.length),w.cell? ⟨b,0+j,none⟩=some C.toList[j]:=fun j hj=>by
 have:j<C.size:=by grind
 simp[World.cell?,h,this]
theorem ajl{w:World}{b:Nat}{C:Array Value}{t:TypeId}{f:Nat×Nat}(h:w.heap[b]? =some (.cells C t f))(o n:Nat)(hn:o+n<=C.size):∀j (hj:j<((C.toList.drop o).take n).length),w.cell? ⟨b,o+j,none⟩=some ((C.toList.drop o).take n)[j]:=fun j hj=>by
 have h1:j<n:=by grind
 have:o+j<C.size:=by omega
 simp[World.cell?,h,this]
structure Vw(w:World)(Cc:Array Value)(N T Wt:List ae)(wr:World)(v:Value):Prop where
 v:names wr 9 (w.heap.size+4) v Wt
 n:cz wr (w.heap.size+2) N
 t:cz wr (w.heap.size+3) T
 k:Below w.heap.size w wr
 c:wr.heap[w.heap.size]? =some (.cells Cc 25 (0,0))
theorem aaI{M:Mem}{f:aj}{C:Array Value}(h:RL M f.cells C.toList):RL M f.body.cells (((C.toList.drop 5).take 12)):=by
 have h1:=(h.drop 5).take 12;have e:(f.cells.drop 5).take 12=f.body.cells:=by rw[congrFun Ex.pQ f.body];rfl
 grind
theorem Cz{w w':World}{o:Obj}(h:Below (w.heap.size+1) (w.alloc o) w'):Below w.heap.size w w':=
 ⟨h.os,h.tape,h.output,by have:=h.size;simp at this;omega,fun k hk=>(h.block k (by omega)).trans (heap_alloc_old w o hk)⟩
theorem RE{w w':World}{e:TypeId}{lo:Nat}{v:Value}{L:List ae}(h:names w e lo v L)(hb:Below w.heap.size w w'):names w' e lo v L:=
 h.aH fun g cur t f hg=>hb.block g (ZW.1 hg).1
theorem KV{w w':World}{b:Nat}{L:List ae}(h:cz w b L)(hb:Below w.heap.size w w'):cz w' b L:=iC h (bz.EA hb []) (by simp)
theorem MC(w:World)(o:Obj)(C:Array Value):Below w.heap.size w ((w.alloc o).setRow w.heap.size C):=(QT w o C []).below (ZO _) (by simp)
theorem aaJ{w2:World}{b:Nat}{Cf:Array Value}{t:TypeId}{f:Nat×Nat}(o:Obj)(hr:w2.heap[b]? =some (.cells Cf t f))(hz:Cf.size=18):∀j (hj:j<((Cf.toList.drop 5).take 12).toArray.toList.length),(w2.alloc o).cell? ⟨b,5+j,none⟩=some ((Cf.toList.drop 5).take 12).toArray.toList[j]:=fun j hj=>by have h1:=ajl ((heap_alloc_old w2 o (ZW.1 hr).1).trans hr) 5 12 (by omega) j (by grind);grind
theorem aaK{Cf:Array Value}(hz:Cf.size=18):((Cf.toList.drop 5).take 12).toArray.toList.length=12:=by simp;omega
structure ou(w:World)(Cc:Array Value)(bm r:Nat)(L N T Wt A:List ae)(left:ae->Prop)(bG:Nat)(wr:World)(v:Value):Prop where
 v:names wr 9 (w.heap.size+4) v (Wt++A)
 n:cz wr (w.heap.size+2) (N++A)
 t:cz wr (w.heap.size+3) T
 q:fW wr prog 9 (plainElem prog 4) bm r L (fun _=>tt) left bG
 k:Below w.heap.size w wr
 c:wr.heap[w.heap.size]? =some (.cells Cc 25 (0,0))
 a:∀a∈A,a∈L
 d:∀a∈L,¬left a->a∈N++A
 rr:w.heap.size+3<r
 bb:w.heap.size+3<bm
theorem ou.start{w:World}{Cc:Array Value}{bm:Nat}{L N T Wt:List ae}{w3 w4:World}{vt:Value}{bG:Nat}(h1:cz w3 (w.heap.size+3) T)(h2:cz w3 (w.heap.size+2) N)(h3:names w3 9 (w.heap.size+4) vt Wt)(h4:Below w.heap.size w w3)(h5:w3.heap[w.heap.size]? =some (.cells Cc 25 (0,0)))
  (h6:w.heap.size+3<bm) (hr:fW w4 prog 9 (plainElem prog 4) bm w3.heap.size L (fun _=>tt) (·∈L) bG) (hg:w3.grownBy w4 none):ou w Cc bm w3.heap.size L N T Wt [] (·∈L) bG w4 vt:=by
 have hk:=bz.EB hg [];have lt:=h1.lt;refine⟨by rw[Y5];exact h3.new hg,by rw[Y5];exact iC h2 hk (by simp),iC h1 hk (by simp),hr,h4.trans (hk.below h4.size (by simp)),?_,fun a ha=>(by cases ha),fun a ha hn=>absurd ha hn,lt,h6⟩;rw[hk.block _ (by omega) (by simp)];grind
theorem ou.next{w:World}{Cc:Array Value}{bm r:Nat}{L N T Wt A:List ae}{left ahu:ae->Prop}{bG ja:Nat}{wr w':World}{v:Value}(h:ou w Cc bm r L N T Wt A left bG wr v)(hr:fW w' prog 9 (plainElem prog 4) bm r L (fun _=>tt) ahu ja)(hg:wr.grownBy w' (some r)):
  names w' 9 (w.heap.size+4) v (Wt++A)/\cz w' (w.heap.size+2) (N++A)/\cz w' (w.heap.size+3) T/\Below w.heap.size w w'/\w'.heap[w.heap.size]? =some (.cells Cc 25 (0,0)):=by
 have hk:=bz.lu hg;have rr:=h.rr;obtain⟨x,y,z,u,hit⟩:=h.q.iter;exact⟨h.v.grown hg fun cs t f e=>(by grind),iC h.n hk (by grind),iC h.t hk (by grind),h.k.trans (hk.below h.k.size (by grind)),by rw[hk.block _ (by grind) (by grind)];exact h.c⟩
theorem ou.mid{w:World}{Cc:Array Value}{bm r:Nat}{L N T Wt A:List ae}{left:ae->Prop}{bG ja:Nat}{wr w' w2:World}{v:Value}{s:ae}(h:ou w Cc bm r L N T Wt A left bG wr v)(hr:fW w' prog 9 (plainElem prog 4) bm r L (fun _=>tt) (fun x=>left x/\x≠s) ja)(hg:wr.grownBy w' (some r))(kL:w'.grownBy w2 (some (w.heap.size+2)))(o:Obj):
  names (w2.alloc o) 9 (w.heap.size+4) v (Wt++A)/\w.heap.size+4<=(w2.alloc o).heap.size:=by
 obtain⟨h1,h2,h3,h4,h5⟩:=h.next hr hg;obtain⟨es,c,hm⟩:=h2.isMap;have:=h3.lt;have:=kL.size;exact⟨(h1.grown kL fun cs t f e=>(by grind)).alloc o,by simp;omega⟩
theorem ou.more{w:World}{Cc:Array Value}{bm r:Nat}{L N T Wt A:List ae}{left:ae->Prop}{bG ja:Nat}{wr w' w2 w3:World}{v v':Value}{s:ae}(h:ou w Cc bm r L N T Wt A left bG wr v)(hr:fW w' prog 9 (plainElem prog 4) bm r L (fun _=>tt) (fun x=>left x/\x≠s) ja)(hg:wr.grownBy w' (some r))(hs:s∉N++A)(hL:s∈L)
  (vV:cz w2 (w.heap.size+2) (ins (N++A) s)) (kL:w'.grownBy w2 (some (w.heap.size+2))) (o:Obj) (hv:names w3 9 (w.heap.size+4) v' (Wt++A++[s])) (hc:za (w.heap.size+4) (w2.alloc o) w3):
  ou w Cc bm r L N T Wt (A++[s]) (fun x=>left x/\x≠s) ja w3 v':=by
 obtain⟨h1,h2,h3,h4,h5⟩:=h.next hr hg;have hk:=bz.lu kL;have rr:=h.rr;have bb:=h.bb;have b4:=h4.size;have lt3:=h3.lt;have sz2:=kL.size;have dV:=hr.kept kL (by grind) (by grind);have kQ:=(dV.kept (World.grownBy_alloc w2 o none) (by simp) (by simp)).qW hc;have AP:=(dt.alloc vV o).qW hc;have ht3:=((iC h3 hk (by simp)).alloc o).qW hc;have e1:ins (N++A) s=N++(A++[s]):=by unfold ins;grind
 rw[e1]at AP;have k2:Below w.heap.size w' w2:=hk.below b4 (by simp);have k3:Below w.heap.size w2 (w2.alloc o):=⟨rfl,rfl,rfl,by simp,fun k hk=>heap_alloc_old w2 o (by omega)⟩
 have k4:Below w.heap.size (w2.alloc o) w3:=⟨hc.os,hc.tape,hc.output,hc.size,fun k hk=>hc.below k (by omega) (by simp;omega)⟩
 refine⟨by grind,AP,ht3,kQ,((h4.trans k2).trans k3).trans k4,?_,fun a ha=>?_,fun a ha hn=>?_,rr,bb⟩
 .rw[hc.below _ (by omega) (by simp;omega),heap_alloc_old _ _ (by omega),hk.block _ (by omega) (by simp)];grind
 .rcases ZI.1 ha with ha|ha
  .exact h.a a ha
  grind
 .by_cases e:a=s
  .grind
  .have:=h.d a ha fun hl=>hn ⟨hl,e⟩;grind
theorem ou.end_{fs:List aj}{x:Ex}{w:World}{Cc:Array Value}{bm r:Nat}{N T Wt A:List ae}{left:ae->Prop}{bG:Nat}{wr:World}{v:Value}{s:ae}{f:aj}(bg:mB fs x N T (s::Wt))(hf:findF fs s=some f)(h:ou w Cc bm r (eQ [] f.body.bH) N (eQ T f.body.dz) Wt A left bG wr v)(hd:∀s:ae,s.size<=maxLen->¬left s):
  Vw w Cc (N++A) (eQ T f.body.dz) (Wt++A) wr v/\mB fs x (N++A) (eQ T f.body.dz) (Wt++A):=by
 refine⟨⟨h.v,h.n,h.t,h.k,h.c⟩,bg.more hf (fun a ha=>?_) (fun a ha=>?_) (fun t=>A2) h.n.1 (Qd bg.nt)⟩
 .rcases A2.1 (h.a a ha)with h1|h1
  .exact h1
  grind
 .have h1:a∈eQ [] f.body.bH:=A2.2 (.inl ha);exact h.d a h1 (hd a (h.q.2.1 a h1))
theorem ou.lens{fs:List aj}{x:Ex}{w:World}{Cc:Array Value}{bm r:Nat}{N T Wt A:List ae}{left:ae->Prop}{bG:Nat}{wr:World}{v:Value}{s:ae}{f:aj}(hU:Vv fs x)(hf:findF fs s=some f){T':List ae}(bg:mB fs x N T' (s::Wt))(h:ou w Cc bm r (eQ [] f.body.bH) N T Wt A left bG wr v):
  A.length<=274877906944/\N.length<=274877906944/\Wt.length<=274877906944:=by
 have h1:=jh (Xz.1 h.n.1).2.1 h.a;have h2:=Eb f.body.bH [];have h3:=acx (x:=x) hf;have h4:=hU.n;have h5:=bg.ahw;have h6:=bg.l;grind
theorem TE:(prog.info? 9).map (fun i=>(i.zero,i.size,i.bytes))=some (some (.string ⟨#[]⟩),1,16):=by kernel_rfl
