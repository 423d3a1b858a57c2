/- catalog.Uses: the states of its walk. -/
import Derived.Test.YtekngilbecjkhaaGreatDoorCg
import Derived.Test.YtekngilbecjkhaaGreatDoorCh
set_option linter.unusedVariables false
set_option linter.unusedSimpArgs false
namespace Go.Proofs.YtekngilbecjkhaaGreatDoor
open Go.RowKit Go.Proofs Go.Tb Go.Maps
open Go.Sx (AV Inv Mem RL R M0 Glob)
theorem row_cells{w:World}{b:Nat}{C:Array Value}{t:TypeId}{f:Nat×Nat}(h:w.heap[b]? =some (.cells C t f)):∀ j (hj:j<C.toList.length),w.cell? ⟨b,0+j,none⟩=some C.toList[j]:=fun j hj=>by
 rw[Nat.zero_add]
 have:j<C.size:=by simpa using hj
 simp[World.cell?,h,this]
theorem row_part{w:World}{b:Nat}{C:Array Value}{t:TypeId}{f:Nat×Nat}(h:w.heap[b]? =some (.cells C t f))(o n:Nat)(hn:o+n≤C.size):∀ j (hj:j<((C.toList.drop o).take n).length),w.cell? ⟨b,o+j,none⟩=some ((C.toList.drop o).take n)[j]:=fun j hj=>by
 have h1:j<n:=by rw[List.length_take]at hj;omega
 have:o+j<C.size:=by omega
 simp[World.cell?,h,this]
structure USt(w:World)(Cc:Array Value)(N T Wt:List Str)(wr:World)(v:Value):Prop where
 v:names wr 9 (w.heap.size+4) v Wt
 n:SetAt wr (w.heap.size+2) N
 t:SetAt wr (w.heap.size+3) T
 k:Below w.heap.size w wr
 c:wr.heap[w.heap.size]? =some (.cells Cc 25 (0,0))
theorem body_at{M:Mem}{f:Fea}{C:Array Value}(h:RL M f.cells C.toList):RL M f.body.cells (((C.toList.drop 5).take 12)):=by
 have h1:=(h.drop 5).take 12
 have e:(f.cells.drop 5).take 12=f.body.cells:=by rw[congrFun Ex.cells_row f.body];rfl
 rw[e]at h1;exact h1
theorem below_alloc{w w':World}{o:Obj}(h:Below (w.heap.size+1) (w.alloc o) w'):Below w.heap.size w w':=
 ⟨h.os,h.tape,h.output,by have:=h.size;simp at this;omega,fun k hk=>(h.block k (by omega)).trans (heap_alloc_old w o hk)⟩
theorem names_below{w w':World}{e:TypeId}{lo:Nat}{v:Value}{L:List Str}(h:names w e lo v L)(hb:Below w.heap.size w w'):names w' e lo v L:=
 h.keep fun g cur t f hg=>hb.block g (Array.getElem?_eq_some_iff.1 hg).1
theorem set_below{w w':World}{b:Nat}{L:List Str}(h:SetAt w b L)(hb:Below w.heap.size w w'):SetAt w' b L:=set_keep h (Keep.of_below hb []) (by simp)
theorem below_row(w:World)(o:Obj)(C:Array Value):Below w.heap.size w ((w.alloc o).setRow w.heap.size C):=(keep_row w o C []).below (Nat.le_refl _) (by simp)
theorem body_cells{w2:World}{b:Nat}{Cf:Array Value}{t:TypeId}{f:Nat×Nat}(o:Obj)(hr:w2.heap[b]? =some (.cells Cf t f))(hz:Cf.size=18):∀ j (hj:j<((Cf.toList.drop 5).take 12).toArray.toList.length),(w2.alloc o).cell? ⟨b,5+j,none⟩=some ((Cf.toList.drop 5).take 12).toArray.toList[j]:=fun j hj=>by
 have h1:=row_part ((heap_alloc_old w2 o (Array.getElem?_eq_some_iff.1 hr).1).trans hr) 5 12 (by omega) j (by simpa using hj)
 simpa using h1
theorem body_len{Cf:Array Value}(hz:Cf.size=18):((Cf.toList.drop 5).take 12).toArray.toList.length=12:=by simp;omega
theorem uses_dir{fs:List Fea}{x:Ex}{w:World}{Cc:Array Value}{N T:List Str}{s:Str}{Wt:List Str}{wr:World}{v:Value}{w1 w2:World}{M1:Mem}{Cf:Array Value}{f:Fea}(hU:USmall fs x)(hS:USt w Cc N T (s::Wt) wr v)(hI':UInv fs x N T (s::Wt))(hb1:Below wr.heap.size wr w1)
  (hI1:Inv Tryz.prog M1 w1 [] w1) (hk2:Below w1.heap.size w1 w2) (hs2:w2.heap.size=w1.heap.size+1) (hf:findF fs s=some f) (hRf:RL M1 f.cells Cf.toList):
  Calls Tryz.prog 45 #[.agg ((Cf.toList.drop 5).take 12).toArray,.map (some (w1.heap.size+1)),.map (some (w.heap.size+3))] (w2.alloc (.map #[] 0)) fun e w3=>(∃ v,e= .returned v)∧SetAt w3 (w1.heap.size+1) (insAll [] f.body.feats)∧SetAt w3 (w.heap.size+3) (insAll T f.body.tabs)∧SetAt w3 (w.heap.size+2) N∧
   (∀ vt,names wr 9 (w.heap.size+4) vt Wt→names w3 9 (w.heap.size+4) vt Wt)∧Below w.heap.size w w3∧w3.heap[w.heap.size]? =some (.cells Cc 25 (0,0))∧wr.heap.size<w1.heap.size+1:=by
 have lr:=hS.k.size
 have l1:=hb1.size
 have hb2:Below w1.heap.size w1 (w2.alloc (.map #[] 0)):=hk2.alloc (by omega) _
 have hbr:Below wr.heap.size wr (w2.alloc (.map #[] 0)):=hb1.trans (c_less hb2 l1)
 have hset:SetAt (w2.alloc (.map #[] 0)) (w1.heap.size+1) []:=by
  have:=set_made w2 Tryz.prog 9 4
  rw[hs2]at this;exact this
 have hT3:=set_below hS.t hbr
 have hlt3:=hS.t.lt
 have hlt2:=hS.n.lt
 have hUn:=hU.n
 have hUt:=hU.t
 have l2:=feats_len (x:=x) hf
 have l3:=tabs_len (x:=x) hf
 have l4:=hI'.lenT
 refine(direct_ok f.body.size f.body (Nat.le_refl _) M1 _ (c_inv hI1 hb2) ((Cf.toList.drop 5).take 12).toArray (by simpa using body_at hRf) (w1.heap.size+1) (w.heap.size+3) [] T hset hT3 (by omega) (by simp;omega) (by omega) (fun s hs=>hU.sn s (univ_feats hf hs)) (fun s hs=>hU.st s (univ_tabs hf hs))).mono fun e w3 ⟨h1,h2,h3,h4⟩=> ?_
 have hsz:(w2.alloc (.map #[] 0)).heap.size=w1.heap.size+2:=by simp;omega
 have hbm:(w2.alloc (.map #[] 0)).heap[w1.heap.size+1]? =some (.map #[] 0):=by rw[← hs2];exact heap_alloc_new _ _
 refine⟨h1,h2,h3,set_keep (set_below hS.n hbr) h4 (by simp;omega),fun vt hvt=> ?_,?_,?_,by omega⟩
 ·refine(names_below hvt hbr).keep fun g cur t f hg=>h4.block g (Array.getElem?_eq_some_iff.1 hg).1 fun hm=> ?_
  rcases List.mem_cons.1 hm with rfl|hm
  ·rw[hbm]at hg;cases hg
  ·rw[List.mem_singleton]at hm;subst hm
   obtain⟨es,c,he⟩:=hT3.isMap
   rw[he]at hg;cases hg
 ·exact(hS.k.trans (c_less hbr lr)).trans (h4.below (by omega) (by simp;omega))
 ·rw[h4.block _ (by omega) (by simp;omega),hbr.block _ (by omega)];exact hS.c
structure UIn(w:World)(Cc:Array Value)(bm r:Nat)(L N T Wt A:List Str)(left:Str→Prop)(cnt:Nat)(wr:World)(v:Value):Prop where
 v:names wr 9 (w.heap.size+4) v (Wt++A)
 n:SetAt wr (w.heap.size+2) (N++A)
 t:SetAt wr (w.heap.size+3) T
 q:rng wr Tryz.prog 9 (plainElem Tryz.prog 4) bm r L (fun _=>tt) left cnt
 k:Below w.heap.size w wr
 c:wr.heap[w.heap.size]? =some (.cells Cc 25 (0,0))
 a:∀ a∈A,a∈L
 d:∀ a∈L,¬left a→a∈N++A
 rr:w.heap.size+3<r
 bb:w.heap.size+3<bm
theorem UIn.start{w:World}{Cc:Array Value}{bm:Nat}{L N T Wt:List Str}{w3 w4:World}{vt:Value}{cnt:Nat}(h1:SetAt w3 (w.heap.size+3) T)(h2:SetAt w3 (w.heap.size+2) N)(h3:names w3 9 (w.heap.size+4) vt Wt)(h4:Below w.heap.size w w3)(h5:w3.heap[w.heap.size]? =some (.cells Cc 25 (0,0)))
  (h6:w.heap.size+3<bm) (hr:rng w4 Tryz.prog 9 (plainElem Tryz.prog 4) bm w3.heap.size L (fun _=>tt) (·∈L) cnt) (hg:w3.grownBy w4 none):UIn w Cc bm w3.heap.size L N T Wt [] (·∈L) cnt w4 vt:=by
 have hk:=Keep.of_none hg []
 have lt:=h1.lt
 refine⟨by rw[List.append_nil];exact h3.new hg,by rw[List.append_nil];exact set_keep h2 hk (by simp),set_keep h1 hk (by simp),hr,h4.trans (hk.below h4.size (by simp)),?_,fun a ha=>(by cases ha),fun a ha hn=>absurd ha hn,lt,h6⟩
 rw[hk.block _ (by omega) (by simp)];exact h5
theorem UIn.next{w:World}{Cc:Array Value}{bm r:Nat}{L N T Wt A:List Str}{left left':Str→Prop}{cnt cnt':Nat}{wr w':World}{v:Value}(h:UIn w Cc bm r L N T Wt A left cnt wr v)(hr:rng w' Tryz.prog 9 (plainElem Tryz.prog 4) bm r L (fun _=>tt) left' cnt')(hg:wr.grownBy w' (some r)):
  names w' 9 (w.heap.size+4) v (Wt++A)∧SetAt w' (w.heap.size+2) (N++A)∧SetAt w' (w.heap.size+3) T∧Below w.heap.size w w'∧w'.heap[w.heap.size]? =some (.cells Cc 25 (0,0)):=by
 have hk:=Keep.of_grown hg
 have rr:=h.rr
 obtain⟨x,y,z,u,hit⟩:=h.q.iter
 exact⟨h.v.grown hg fun cs t f e=>(by rw[hit]at e;cases e),set_keep h.n hk (by simp;omega),set_keep h.t hk (by simp;omega),h.k.trans (hk.below h.k.size (by simp;omega)),by rw[hk.block _ (by have:=h.n.lt;omega) (by simp;omega)];exact h.c⟩
theorem UIn.stay{w:World}{Cc:Array Value}{bm r:Nat}{L N T Wt A:List Str}{left:Str→Prop}{cnt cnt':Nat}{wr w':World}{v:Value}{s:Str}(h:UIn w Cc bm r L N T Wt A left cnt wr v)(hr:rng w' Tryz.prog 9 (plainElem Tryz.prog 4) bm r L (fun _=>tt) (fun x=>left x∧x≠s) cnt')(hg:wr.grownBy w' (some r))(hs:s∈N++A):
  UIn w Cc bm r L N T Wt A (fun x=>left x∧x≠s) cnt' w' v:=by
 obtain⟨h1,h2,h3,h4,h5⟩:=h.next hr hg
 refine⟨h1,h2,h3,hr,h4,h5,h.a,fun a ha hn=> ?_,h.rr,h.bb⟩
 by_cases e:a=s
 ·rw[e];exact hs
 ·exact h.d a ha fun hl=>hn ⟨hl,e⟩
theorem UIn.mid{w:World}{Cc:Array Value}{bm r:Nat}{L N T Wt A:List Str}{left:Str→Prop}{cnt cnt':Nat}{wr w' w2:World}{v:Value}{s:Str}(h:UIn w Cc bm r L N T Wt A left cnt wr v)(hr:rng w' Tryz.prog 9 (plainElem Tryz.prog 4) bm r L (fun _=>tt) (fun x=>left x∧x≠s) cnt')(hg:wr.grownBy w' (some r))(hg2:w'.grownBy w2 (some (w.heap.size+2)))(o:Obj):
  names (w2.alloc o) 9 (w.heap.size+4) v (Wt++A)∧w.heap.size+4≤(w2.alloc o).heap.size:=by
 obtain⟨h1,h2,h3,h4,h5⟩:=h.next hr hg
 obtain⟨es,c,hm⟩:=h2.isMap
 have:=h3.lt
 have:=hg2.size
 exact⟨(h1.grown hg2 fun cs t f e=>(by rw[hm]at e;cases e)).alloc o,by simp;omega⟩
theorem UIn.more{w:World}{Cc:Array Value}{bm r:Nat}{L N T Wt A:List Str}{left:Str→Prop}{cnt cnt':Nat}{wr w' w2 w3:World}{v v':Value}{s:Str}(h:UIn w Cc bm r L N T Wt A left cnt wr v)(hr:rng w' Tryz.prog 9 (plainElem Tryz.prog 4) bm r L (fun _=>tt) (fun x=>left x∧x≠s) cnt')(hg:wr.grownBy w' (some r))(hs:s∉N++A)(hL:s∈L)
  (hset:SetAt w2 (w.heap.size+2) (ins (N++A) s)) (hg2:w'.grownBy w2 (some (w.heap.size+2))) (o:Obj) (hv:names w3 9 (w.heap.size+4) v' (Wt++A++[s])) (hc:Cellw (w.heap.size+4) (w2.alloc o) w3):
  UIn w Cc bm r L N T Wt (A++[s]) (fun x=>left x∧x≠s) cnt' w3 v':=by
 obtain⟨h1,h2,h3,h4,h5⟩:=h.next hr hg
 have hk:=Keep.of_grown hg2
 have rr:=h.rr
 have bb:=h.bb
 have b4:=h4.size
 have lt3:=h3.lt
 have sz2:=hg2.size
 have hr2:=hr.kept hg2 (by simp;omega) (by simp;omega)
 have hr3:=(hr2.kept (World.grownBy_alloc w2 o none) (by simp) (by simp)).cellw hc
 have hset3:=(tbl.alloc hset o).cellw hc
 have ht3:=((set_keep h3 hk (by simp)).alloc o).cellw hc
 have e1:ins (N++A) s=N++(A++[s]):=by unfold ins;rw[if_neg hs,List.append_assoc]
 rw[e1]at hset3
 have k2:Below w.heap.size w' w2:=hk.below b4 (by simp)
 have k3:Below w.heap.size w2 (w2.alloc o):=⟨rfl,rfl,rfl,by simp,fun k hk=>heap_alloc_old w2 o (by omega)⟩
 have k4:Below w.heap.size (w2.alloc o) w3:=⟨hc.os,hc.tape,hc.output,hc.size,fun k hk=>hc.below k (by omega) (by simp;omega)⟩
 refine⟨by rw[← List.append_assoc];exact hv,hset3,ht3,hr3,((h4.trans k2).trans k3).trans k4,?_,fun a ha=> ?_,fun a ha hn=> ?_,rr,bb⟩
 ·rw[hc.below _ (by omega) (by simp;omega),heap_alloc_old _ _ (by omega),hk.block _ (by omega) (by simp)];exact h5
 ·rcases List.mem_append.1 ha with ha|ha
  ·exact h.a a ha
  ·rw[List.mem_singleton]at ha;subst ha;exact hL
 ·by_cases e:a=s
  ·subst e;simp
  ·have:=h.d a ha fun hl=>hn ⟨hl,e⟩
   rw[← List.append_assoc];exact List.mem_append_left _ this
theorem UIn.end_{fs:List Fea}{x:Ex}{w:World}{Cc:Array Value}{bm r:Nat}{N T Wt A:List Str}{left:Str→Prop}{cnt:Nat}{wr:World}{v:Value}{s:Str}{f:Fea}(hI':UInv fs x N T (s::Wt))(hf:findF fs s=some f)(h:UIn w Cc bm r (insAll [] f.body.feats) N (insAll T f.body.tabs) Wt A left cnt wr v)(hd:∀ s:Str,s.size≤maxLen→¬left s):
  USt w Cc (N++A) (insAll T f.body.tabs) (Wt++A) wr v∧UInv fs x (N++A) (insAll T f.body.tabs) (Wt++A):=by
 refine⟨⟨h.v,h.n,h.t,h.k,h.c⟩,hI'.more hf (fun a ha=> ?_) (fun a ha=> ?_) (fun t=>insAll_mem) h.n.1 (insAll_nodup hI'.nt)⟩
 ·rcases insAll_mem.1 (h.a a ha)with h1|h1
  ·exact h1
  ·cases h1
 ·have h1:a∈insAll [] f.body.feats:=insAll_mem.2 (.inl ha)
  exact h.d a h1 (hd a (h.q.2.1 a h1))
theorem UIn.lens{fs:List Fea}{x:Ex}{w:World}{Cc:Array Value}{bm r:Nat}{N T Wt A:List Str}{left:Str→Prop}{cnt:Nat}{wr:World}{v:Value}{s:Str}{f:Fea}(hU:USmall fs x)(hf:findF fs s=some f){T':List Str}(hI':UInv fs x N T' (s::Wt))(h:UIn w Cc bm r (insAll [] f.body.feats) N T Wt A left cnt wr v):
  A.length≤274877906944∧N.length≤274877906944∧Wt.length≤274877906944:=by
 have h1:=nodup_le (List.nodup_append.1 h.n.1).2.1 h.a
 have h2:=insAll_len f.body.feats []
 have h3:=feats_len (x:=x) hf
 have h4:=hU.n
 have h5:=hI'.lenN
 have h6:=hI'.l
 simp only[List.length_cons,List.length_nil]at *
 omega
theorem strInfo:(Tryz.prog.info? 9).map (fun i=>(i.zero,i.size,i.bytes))=some (some (.string ⟨#[]⟩),1,16):=by kernel_rfl
end Go.Proofs.YtekngilbecjkhaaGreatDoor
