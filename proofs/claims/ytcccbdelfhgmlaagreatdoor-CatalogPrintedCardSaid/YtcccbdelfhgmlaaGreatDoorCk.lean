/- catalog.dependencies: the states of its walk. -/
import Derived.Test.YtcccbdelfhgmlaaGreatDoorCi
import Derived.Test.YtcccbdelfhgmlaaGreatDoorCa
set_option linter.unusedVariables false
set_option linter.unusedSimpArgs false
namespace Go.Proofs.YtcccbdelfhgmlaaGreatDoor
open Go.RowKit Go.Proofs Go.Tb Go.Maps
open Go.Sx (AV Mem RL R M0 Glob)
theorem PJ{α:Type}[Inhabited α]{l:List α}{i:Nat}(h:i<l.length):l.getD i default∈l:=by
 rw[show l.getD i default=l[i] by simp[ZY,h]];exact Zp _
structure uB(fs:List aq):Prop where
 f:∀ f∈fs,f.body.aV.length≤274877906944∧f.body.cy.length≤274877906944∧(∀ s∈f.body.aV,s.size≤maxLen)∧∀ s∈f.body.cy,s.size≤maxLen
 n:∀ f∈fs,f.name.size≤maxLen
 l:fs.length≤274877906944
theorem agp{w w':World}{b:Nat}{L:List ae}{f:ae→Nat}(h:qz w b L f)(hb:Below w.heap.size w w'):qz w' b L f:=Ss h (aW.yH hb []) (by simp)
theorem aq.parts{M:Mem}{f:aq}{C:Array Value}(h:RL M f.cells C.toList):C.size=18∧C.all (·.oneCell')=true∧C[0]? =some (.string f.name):=by
 refine⟨?_,by rw[← Array.all_toList];exact h.Av rfl,?_⟩
 ·have h1:=h.1
  have h2:f.cells.length=18:=rfl
  have h3:C.toList.length=C.size:=Zb
  omega
 ·obtain⟨v,h1,h2⟩:=h.get (i:=0) (x:=sv f.name) rfl
  rw[h2.ay]at h1
  simpa using h1
theorem di.aV{M:Mem}{c:di}{C:Array Value}(h:RL M c.cells C.toList):∃ v0 v2 v3 a cap,C= #[v0,.slice a c.features.length cap,v2,v3]∧c.features.length≤maxLen∧
  ∀ i (hi:i<c.features.length),∃ bb off,a=some ⟨bb,off,none⟩∧∃ F:Array Value,RL M (c.features.getD i default).cells F.toList∧F.toList.length=18∧∀ j (hj:j<F.toList.length),M bb (off+i * 18+j)=some F.toList[j]:=by
 obtain⟨v0,l0,e0,h0,h⟩:=h.bS
 obtain⟨v1,l1,rfl,h1,h⟩:=h.bS
 obtain⟨v2,l2,rfl,h2,h⟩:=h.bS
 obtain⟨v3,l3,rfl,h3,h⟩:=h.bS
 obtain rfl:=h.rR
 have hlen:=Ut h1
 rw[Z3]at hlen
 obtain⟨a,cap,rfl,hA⟩:=GX h1
 rw[Z3]at e0
 refine⟨v0,v2,v3,a,cap,?_,hlen,fun i hi=> ?_⟩
 ·rw[← Array.toList_inj,e0]
 ·obtain⟨bb,off,e,cs',g1,g2,g3⟩:=hA i (by rw[Z3];exact hi)
  refine⟨bb,off,e,cs'.toArray,?_,by simpa using g2,fun j hj=>by simpa using g3 j (by simpa using hj)⟩
  rw[Zm]at g1
  rw[show c.features.getD i default=c.features[i] by simp[ZY,hi]]
  simpa using g1
structure im(w:World)(fs:List aq)(i:Nat)(L:List ae)(F:ae→Nat)(wr:World):Prop where
 m:qz wr (w.heap.size+1) L F
 l:∀ n,n∈L↔∃ j,j<i∧(fs.getD j default).name=n
 s:∀ n∈L,∃ f,findF fs n=some f∧bV wr (F n) (dm [] f.body.aV)
 inj:∀ a∈L,∀ b∈L,F a=F b→a=b
 g:∀ n∈L,w.heap.size+2<F n
 k:Below w.heap.size w wr
 v:wr.heap[w.heap.size+2]? =some (.cells #[.map (some (w.heap.size+1))] 81 (0,0))
theorem im.start(w:World)(o:Obj)(fs:List aq)(F:ae→Nat):im w fs 0 [] F (((w.alloc o).alloc (.map #[] 0)).alloc (.cells #[.map (some (w.heap.size+1))] 81)):=by
 have h1:=U0 (w.alloc o) Tryz.prog 9 mapElem (fun s=> .lit (.int .i64 (F s)))
 rw[show(w.alloc o).heap.size=w.heap.size+1 by simp]at h1
 have h2:=heap_alloc_new ((w.alloc o).alloc (.map #[] 0)) (.cells #[.map (some (w.heap.size+1))] 81)
 rw[show((w.alloc o).alloc (.map #[] 0)).heap.size=w.heap.size+2 by simp]at h2
 exact⟨h1.alloc _,fun n=>⟨fun h=>(by cases h),fun⟨j,hj,_⟩=>absurd hj (by omega)⟩,fun n h=>(by cases h),fun a h=>(by cases h),fun a h=>(by cases h),((((aW.refl w []).alloc _).alloc _).alloc _).below (ZR _) (by simp),h2⟩
theorem im.to{w:World}{fs:List aq}{i:Nat}{L:List ae}{F:ae→Nat}{wr w':World}(h:im w fs i L F wr)(hb:Below wr.heap.size wr w'):im w fs i L F w':=
 ⟨agp h.m hb,h.l,fun n hn=>by obtain⟨f,h1,h2⟩:=h.s n hn;exact⟨f,h1,rM h2 hb⟩,h.inj,h.g,h.k.trans (gx hb h.k.size),by rw[hb.block _ (ZX.1 h.v).1];exact h.v⟩
theorem im.skip{w:World}{fs:List aq}{i:Nat}{L:List ae}{F:ae→Nat}{wr:World}(h:im w fs i L F wr)(hm:(fs.getD i default).name∈L):im w fs (i+1) L F wr:=
 ⟨h.m,fun n=>by
  rw[h.l]
  constructor
  ·rintro⟨j,hj,e⟩;exact⟨j,by omega,e⟩
  ·rintro⟨j,hj,e⟩
   rcases Yy (Yt hj)with h1|rfl
   ·exact⟨j,h1,e⟩
   ·rw[e]at hm;exact(h.l n).1 hm,h.s,h.inj,h.g,h.k,h.v⟩
theorem aeb{fs:List aq}{n:ae}{i:Nat}(hi:i<fs.length)(hn:(fs.getD i default).name=n)(hp:∀ j,j<i→(fs.getD j default).name≠n):findF fs n=some (fs.getD i default):=by
 unfold findF
 rw[show fs.getD i default=fs[i] by simp[ZY,hi]]at hn ⊢
 rw[List.find?_eq_some_iff_getElem]
 refine⟨by simpa using hn,i,hi,rfl,fun j hj=> ?_⟩
 have:=hp j hj
 rw[show fs.getD j default=fs[j] by simp[ZY,Nat.lt_trans hj hi]]at this
 simpa using this
theorem im.put{w:World}{fs:List aq}{i:Nat}{L:List ae}{F:ae→Nat}{wr w':World}{b:Nat}(h:im w fs i L F wr)(hi:i<fs.length)(hm:(fs.getD i default).name∉L)(hs:bV wr b (dm [] (fs.getD i default).body.aV))(hb:w.heap.size+2<b)(IA:∀ n∈L,F n≠b)
  (hw:qz w' (w.heap.size+1) (ins L (fs.getD i default).name) (fun x=>if x=(fs.getD i default).name then b else F x)) (hg:wr.grownBy w' (some (w.heap.size+1))):im w fs (i+1) (ins L (fs.getD i default).name) (fun x=>if x=(fs.getD i default).name then b else F x) w':=by
 have hk:=aW.kh hg
 refine⟨hw,fun n=> ?_,fun n hn=> ?_,fun x hx y hy e=> ?_,fun n hn=> ?_,h.k.trans (hk.below h.k.size (by simp)),?_⟩
 ·rw[pW,h.l]
  constructor
  ·rintro(rfl|⟨j,hj,e⟩)
   ·exact⟨i,by omega,rfl⟩
   ·exact⟨j,by omega,e⟩
  ·rintro⟨j,hj,e⟩
   rcases Yy (Yt hj)with h1|rfl
   ·exact .inr ⟨j,h1,e⟩
   ·exact .inl e.symm
 ·by_cases e:n=(fs.getD i default).name
  ·refine⟨fs.getD i default,aeb hi e.symm (fun j hj e'=>hm ((h.l _).2 ⟨j,hj,e'.trans e⟩)),?_⟩
   rw[Z8 e];exact fW hs hk (by simp;omega)
  ·have ja:n∈L:=by
    rcases pW.1 hn with h1|h1
    ·exact absurd h1 e
    ·exact h1
   obtain⟨f,h1,h2⟩:=h.s n ja
   have:=h.g n ja
   refine⟨f,h1,?_⟩
   rw[Z9 e];exact fW h2 hk (by simp;omega)
 ·have mj:=pW.1 hx
  have Ry:=pW.1 hy
  by_cases e1:x=(fs.getD i default).name<;>by_cases e2:y=(fs.getD i default).name
  ·rw[e1,e2]
  ·rw[Z8 e1,Z9 e2]at e
   exact absurd e.symm (IA y (Ry.resolve_left e2))
  ·rw[Z9 e1,Z8 e2]at e
   exact absurd e (IA x (mj.resolve_left e1))
  ·rw[Z9 e1,Z9 e2]at e
   exact h.inj x (mj.resolve_left e1) y (Ry.resolve_left e2) e
 ·show _<if n=_ then b else F n
  split
  ·exact hb
  ·rename_i e
   exact h.g n ((pW.1 hn).resolve_left e)
 ·rw[hk.block _ (ZX.1 h.v).1 (by simp)];exact h.v
theorem im.len{w:World}{fs:List aq}{i:Nat}{L:List ae}{F:ae→Nat}{wr:World}(h:im w fs i L F wr):L.length≤i:=by
 have h1:=iN (a:=L) (b:=(List.range i).map fun j=>(fs.getD j default).name) h.m.1 fun n hn=>by
  obtain⟨j,hj,e⟩:=(h.l n).1 hn
  exact YX.2 ⟨j,Y6.2 hj,e⟩
 simpa using h1
theorem im.new{w:World}{fs:List aq}{i:Nat}{L:List ae}{F:ae→Nat}{wr:World}(h:im w fs i L F wr):w.heap.size+2<wr.heap.size∧∀ n∈L,F n<wr.heap.size:=
 ⟨(ZX.1 h.v).1,fun n hn=>by obtain⟨f,_,h2⟩:=h.s n hn;exact h2.lt⟩
theorem acO{f:aq}{fs:List aq}(hF:uB fs)(hf:f∈fs){wr w2:World}{M:Mem}{Cf:Array Value}(hI:Sx.Inv Tryz.prog M ⟨wr,M⟩ [] wr)(dt:Below wr.heap.size wr w2)(cI:w2.heap.size=wr.heap.size+1)(aY:w2.heap[wr.heap.size]? =some (.cells Cf 51 (0,0)))(nY:RL M f.cells Cf.toList):
  Calls Tryz.prog 21 #[.agg ((Cf.toList.drop 5).take 12).toArray,.map (some (wr.heap.size+1)),.map (some (wr.heap.size+2))] ((w2.alloc (.map #[] 0)).alloc (.map #[] 0)) fun e w3=>(∃ v,e= .returned v)∧bV w3 (wr.heap.size+1) (dm [] f.body.aV)∧
   Below wr.heap.size wr w3∧w3.heap[wr.heap.size]? =some (.cells Cf 51 (0,0)):=by
 have cW:Below wr.heap.size wr ((w2.alloc (.map #[] 0)).alloc (.map #[] 0)):=(dt.alloc (by omega) _).alloc (by simp;omega) _
 have h1:bV ((w2.alloc (.map #[] 0)).alloc (.map #[] 0)) (wr.heap.size+1) []:=by
  have:=we w2 Tryz.prog 9 4
  rw[cI]at this;exact this.alloc _
 have h2:bV ((w2.alloc (.map #[] 0)).alloc (.map #[] 0)) (wr.heap.size+2) []:=by
  have:=we (w2.alloc (.map #[] 0)) Tryz.prog 9 4
  rw[show(w2.alloc (.map #[] 0)).heap.size=wr.heap.size+2 by simp;omega]at this;exact this
 obtain⟨l1,l2,l3,l4⟩:=hF.f f hf
 have aQ:((w2.alloc (.map #[] 0)).alloc (.map #[] 0)).heap.size=wr.heap.size+3:=by simp;omega
 refine(Dw f.body.size f.body (ZR _) M _ (uP hI cW) ((Cf.toList.drop 5).take 12).toArray (by simpa using Nz nY) (wr.heap.size+1) (wr.heap.size+2) [] [] h1 h2 (by omega) (by simp;omega) (by simp;omega) l3 l4).mono fun e w3 ⟨g1,g2,g3,g4⟩=>⟨g1,g2,?_,?_⟩
 ·exact cW.trans (g4.below (by omega) (by simp))
 ·rw[g4.block _ (by omega) (by simp),heap_alloc_old _ _ (by simp;omega),heap_alloc_old _ _ (by omega)];exact aY
structure qv(w:World)(fs:List aq)(L:List ae)(F:ae→Nat)(r:Nat)(left:ae→Prop)(aI:Nat)(wr:World):Prop where
 q:fj wr Tryz.prog 9 mapElem (w.heap.size+1) r L (fun s=> .lit (.int .i64 (F s))) left aI
 l:∀ n,n∈L↔oE fs n=true
 s:∀ n∈L,∃ f,findF fs n=some f∧(left n→bV wr (F n) (dm [] f.body.aV))∧(¬left n→bV wr (F n) ((dm [] f.body.aV).filter fun s=>decide (s∈L)))
 inj:∀ a∈L,∀ b∈L,F a=F b→a=b
 g:∀ n∈L,w.heap.size+2<F n
 k:Below w.heap.size w wr
 v:wr.heap[w.heap.size+2]? =some (.cells #[.map (some (w.heap.size+1))] 81 (0,0))
 rr:w.heap.size+2<r
theorem qv.start{w:World}{fs:List aq}{L:List ae}{F:ae→Nat}{wr w':World}{aI:Nat}(h:im w fs fs.length L F wr)(hr:fj w' Tryz.prog 9 mapElem (w.heap.size+1) wr.heap.size L (fun s=> .lit (.int .i64 (F s))) (·∈L) aI)(hg:wr.grownBy w' none):qv w fs L F wr.heap.size (·∈L) aI w':=by
 have hk:=aW.ET hg []
 have lt:=(ZX.1 h.v).1
 refine⟨hr,fun n=> ?_,fun n hn=> ?_,h.inj,h.g,h.k.trans (hk.below h.k.size (by simp)),by rw[hk.block _ lt (by simp)];exact h.v,lt⟩
 ·rw[h.l,Ep]
  constructor
  ·rintro⟨j,hj,e⟩
   refine⟨fs.getD j default,?_,e⟩
   rw[show fs.getD j default=fs[j] by simp[ZY,hj]];exact Zp _
  ·rintro⟨f,hf,e⟩
   obtain⟨j,hj,rfl⟩:=YK hf
   exact⟨j,hj,by rw[show fs.getD j default=fs[j] by simp[ZY,hj]];exact e⟩
 ·obtain⟨f,h1,h2⟩:=h.s n hn
  exact⟨f,h1,fun _=>fW h2 hk (by simp),fun hl=>absurd hn hl⟩
theorem qv.step{w:World}{fs:List aq}{L:List ae}{F:ae→Nat}{r:Nat}{left:ae→Prop}{aI eQ:Nat}{wr w':World}{s:ae}(h:qv w fs L F r left aI wr)(kW:s∈L)(hl:left s)(hr:fj w' Tryz.prog 9 mapElem (w.heap.size+1) r L (fun s=> .lit (.int .i64 (F s))) (fun x=>left x∧x≠s) eQ)(hg:wr.grownBy w' (some r)):
  ∃ f,findF fs s=some f∧bV w' (F s) (dm [] f.body.aV)∧qz w' (w.heap.size+1) L F∧w'.cell? ⟨w.heap.size+2,0,none⟩=some (.map (some (w.heap.size+1)))∧F s≠w.heap.size+1∧
   ∀ w2,bV w2 (F s) ((dm [] f.body.aV).filter fun s=>decide (s∈L))→w'.grownBy w2 (some (F s))→qv w fs L F r (fun x=>left x∧x≠s) eQ w2:=by
 have hk:=aW.kh hg
 have rr:=h.rr
 obtain⟨f,h1,h2,_⟩:=h.s s kW
 have gs:=h.g s kW
 obtain⟨x,y,z,u,hit⟩:=h.q.iter
 have ne:∀ n∈L,F n≠r:=fun n hn e=>by
  obtain⟨f',_,h3,h4⟩:=h.s n hn
  have:∃ D,bV wr (F n) D:=by
   by_cases hl:left n
   ·exact⟨_,h3 hl⟩
   ·exact⟨_,h4 hl⟩
  obtain⟨D,hD⟩:=this
  obtain⟨es,c,hm⟩:=hD.isMap
  rw[e,hit]at hm;cases hm
 have hv:w'.heap[w.heap.size+2]? =some (.cells #[.map (some (w.heap.size+1))] 81 (0,0)):=by rw[hk.block _ (ZX.1 h.v).1 (by simp;omega)];exact h.v
 refine⟨f,h1,fW (h2 hl) hk (by simpa using ne s kW),hr.dy,by simp[World.cell?,hv],by omega,fun w2 cI gP=> ?_⟩
 have dt:=aW.kh gP
 refine⟨hr.kept gP (by simp;omega) (by simpa using fun e=>ne s kW e.symm),h.l,fun n hn=> ?_,h.inj,h.g,(h.k.trans (hk.below h.k.size (by simp;omega))).trans (dt.below (by have:=h.k.size;have:=hk.size;omega) (by simp;omega)),by rw[dt.block _ (ZX.1 hv).1 (by simp;omega)];exact hv,rr⟩
 obtain⟨f',g1,g2,g3⟩:=h.s n hn
 by_cases e:n=s
 ·subst e
  rw[h1]at g1;cases g1
  exact⟨f,h1,fun hl=>absurd rfl hl.2,fun _=>cI⟩
 ·have aJ:F n≠F s:=fun e'=>e (h.inj n hn s kW e')
  refine⟨f',g1,fun hl=> ?_,fun hl=> ?_⟩
  ·exact fW (fW (g2 hl.1) hk (by simpa using ne n hn)) dt (by simpa using aJ)
  ·exact fW (fW (g3 fun h'=>hl ⟨h',e⟩) hk (by simpa using ne n hn)) dt (by simpa using aJ)
structure iq(w:World)(b lo:Nat)(fs:List aq)(L:List ae)(F:ae→Nat):Prop where
 m:qz w b L F
 l:∀ n,n∈L↔oE fs n=true
 s:∀ n∈L,∃ D,bV w (F n) D∧∀ m,m∈D↔m∈deps fs n
 g:∀ n∈L,lo≤F n
theorem qv.done{w:World}{fs:List aq}{L:List ae}{F:ae→Nat}{r:Nat}{left:ae→Prop}{aI:Nat}{wr:World}(h:qv w fs L F r left aI wr)(hd:∀ s:ae,s.size≤maxLen→¬left s):iq wr (w.heap.size+1) w.heap.size fs L F:=by
 refine⟨h.q.dy,h.l,fun n hn=> ?_,fun n hn=>by have:=h.g n hn;omega⟩
 obtain⟨f,h1,_,h3⟩:=h.s n hn
 refine⟨_,h3 (hd n (h.q.2.1 n hn)),fun m=> ?_⟩
 rw[Ze,rz,Hj]
 simp only[Zq,h.l]
 constructor
 ·rintro⟨h4|h4,h5⟩
  ·exact⟨f,h1,h4,h5⟩
  ·cases h4
 ·rintro⟨f',h4,h5,h6⟩
  rw[h1]at h4;cases h4
  exact⟨.inl h5,h6⟩
theorem iq.keep{w w':World}{b lo:Nat}{fs:List aq}{L:List ae}{F:ae→Nat}{l:List Nat}(h:iq w b lo fs L F)(hk:aW w w' l)(hb:b∉l)(hl:∀ n∈L,F n∉l):iq w' b lo fs L F:=
 ⟨Ss h.m hk hb,h.l,fun n hn=>by obtain⟨D,h1,h2⟩:=h.s n hn;exact⟨D,fW h1 hk (hl n hn),h2⟩,h.g⟩
theorem iq.below{w w':World}{b lo:Nat}{fs:List aq}{L:List ae}{F:ae→Nat}(h:iq w b lo fs L F)(hb:Below w.heap.size w w'):iq w' b lo fs L F:=h.keep (aW.yH hb []) (by simp) (by simp)
set_option maxHeartbeats 4000000 in
set_option maxRecDepth 1000000 in
theorem OG(c:di)(hF:uB c.features){M:Mem}{w:World}(hI:Sx.Inv Tryz.prog M ⟨w,M⟩ [] w){Cc:Array Value}(hC:RL M c.cells Cc.toList):
  Calls Tryz.prog 36 #[.agg Cc] w fun e W'=>∃ L Fm,e= .returned (.map (some (w.heap.size+1)))∧iq W' (w.heap.size+1) w.heap.size c.features L Fm∧Below w.heap.size w W':=by
 obtain⟨v0,v2,v3,aF,cF,rfl,hlen,P8⟩:=di.aV hC
 have vx:∀ (w:World) (r:Option Nat),(binOp .eql 69 (.map r) (.map none)).run Tryz.prog w= .ok (.bool r.isNone) w:=fun w r=>run_eql_map_nil w _ _ _ r Tryz.underlying69
 have yb:= @run_makeMap Tryz.prog
 have HI:=Hd.mk hI
 have HF:=Hd.mk hF
 have Wd:=Hd.mk P8
 have oj:c.features.length≤9223372036854775807:=hlen
 have Eb:maxLen=9223372036854775807:=rfl
 clear hI hF P8 hlen hC
 have Qr:∀ (wr:World),wr.heap[w.heap.size+2]? =some (.cells #[.map (some (w.heap.size+1))] 81 (0,0))→wr.cell? ⟨w.heap.size+2,0,none⟩=some (.map (some (w.heap.size+1))):=fun wr h=>by simp[World.cell?,h]
 have z7:=Hd.mk Qr
 clear Qr
 go_enter Tryz.func36,Tryz.ntmps36
 go_wp2
 go_loopw [13] (fun i wr=>∃ (k:Nat) (L:List ae) (Fm:ae→Nat),i= .int .i64 k∧k≤c.features.length∧Hd (im w c.features k L Fm wr)) (fun i _=>c.features.length-(intOf i).toNat)
 case atStart=>exact⟨0,[],fun _=>0,rfl,ZH _,⟨im.start w _ c.features _⟩⟩
 obtain⟨k,L,Fm,rfl,hk,HS⟩:=hrel
 have hcell:=z7.out _ HS.out.v
 by_cases ax:k<c.features.length
 ·obtain⟨bb,off,rfl,Cf,nY,hl,hM⟩:=Wd.out k ax
  obtain⟨f,hf⟩:∃ f,f=c.features.getD k default:=⟨_,rfl⟩
  rw[← hf]at nY
  obtain⟨fA,BB,oq⟩:=aq.parts nY
  have DW:Hd (Sx.eV Tryz.prog 51=some (true,Cf.toList.length)):=⟨by rw[hl];kernel_rfl⟩
  have Dc:Hd (Sx.eV Tryz.prog 33=some (true,((Cf.toList.drop 5).take 12).toArray.toList.length)):=⟨by rw[NB fA];kernel_rfl⟩
  have tA:(Tryz.prog.info? 51).map (·.size)=some Cf.size:=(by rw[fA];kernel_rfl)
  have Md:=Hd.mk (uP HI.out HS.out.k)
  have HM:Hd (∀ j (hj:j<Cf.toList.length),wr.cell? ⟨bb,off+k * 18+j,none⟩=some Cf.toList[j]):=⟨fun j hj=>Md.out.dA _ _ _ (hM j hj)⟩
  have q9:f.name.size≤maxLen:=HF.out.n f (hf ▸ PJ ax)
  have HR:=Hd.mk nY
  have HN:=Hd.mk oq
  have Hf:=Hd.mk hf
  clear hM hl nY oq hf
  by_cases fI:f.name∈L
  ·go_wp2_with (first
    |(show wpList _ _ _ (⟨some 16,_,_,_,_,_⟩::_) _ _;refine qI rfl 51 (.tmp 15) rfl bb (off+k * 18) rfl Cf HM.out DW.out ?_)
    |(show wpList _ _ _ (⟨none,.store _ _ _,_,_,_,_⟩::_) _ _;refine wpList_store_row rfl 51 (.tmp 5) (.tmp 16) rfl wr.heap.size Cf rfl rfl 51 _ (heap_alloc_new _ _) tA fA.symm BB ?_;generalize gD:(World.setRow (World.alloc wr _) wr.heap.size Cf)=w2;have dt:Below wr.heap.size wr w2:=gD ▸ GQ _ _ _;have aY:w2.heap[wr.heap.size]? =some (.cells Cf 51 (0,0)):=gD ▸ setRow_heap _ _ _ _ _ _ (heap_alloc_new _ _);have cI:w2.heap.size=wr.heap.size+1:=gD ▸ (by simp[World.setRow]);have ia:w2.cell? ⟨wr.heap.size,0,none⟩=some (.string f.name):=(pn aY).trans HN.out;have wV:=Hd.mk (HS.out.to dt);have jL:=z7.out _ wV.out.v;clear gD aY)
    |(at_lookup;refine zN _ rfl _ _ 81 rfl Tryz.underlying9 Tryz.underlying81 (Tryz.zeroValue69 _) (w.heap.size+1) L Fm rfl wV.out.m f.name rfl q9 ?_;rw[Z8 fI]))
   go_roundw
   case rel=>exact⟨k+1,L,Fm,by go_num,ax,⟨wV.out.skip (Hf.out ▸ fI)⟩⟩
   case measure=>simp[intOf];omega
  ·go_wp2_with (first
    |(show wpList _ _ _ (⟨some 16,_,_,_,_,_⟩::_) _ _;refine qI rfl 51 (.tmp 15) rfl bb (off+k * 18) rfl Cf HM.out DW.out ?_)
    |(show wpList _ _ _ (⟨none,.store _ _ _,_,_,_,_⟩::_) _ _;refine wpList_store_row rfl 51 (.tmp 5) (.tmp 16) rfl wr.heap.size Cf rfl rfl 51 _ (heap_alloc_new _ _) tA fA.symm BB ?_;generalize gD:(World.setRow (World.alloc wr _) wr.heap.size Cf)=w2;have dt:Below wr.heap.size wr w2:=gD ▸ GQ _ _ _;have aY:w2.heap[wr.heap.size]? =some (.cells Cf 51 (0,0)):=gD ▸ setRow_heap _ _ _ _ _ _ (heap_alloc_new _ _);have cI:w2.heap.size=wr.heap.size+1:=gD ▸ (by simp[World.setRow]);have ia:w2.cell? ⟨wr.heap.size,0,none⟩=some (.string f.name):=(pn aY).trans HN.out;have wV:=Hd.mk (HS.out.to dt);have jL:=z7.out _ wV.out.v;have Mh:=Hd.mk aY;clear gD aY)
    |(at_lookup;refine zN _ rfl _ _ 81 rfl Tryz.underlying9 Tryz.underlying81 (Tryz.zeroValue69 _) (w.heap.size+1) L Fm rfl wV.out.m f.name rfl q9 ?_;rw[Z9 fI])
    |(show wpList _ _ _ (⟨some 24,_,_,_,_,_⟩::_) _ _;refine qI rfl 33 (.tmp 23) rfl wr.heap.size 5 rfl ((Cf.toList.drop 5).take 12).toArray (NA _ Mh.out fA) Dc.out ?_)
    |(go_at_call 21;refine(acO HF.out (Hf.out ▸ PJ ax) Md.out dt cI Mh.out HR.out).mono ?_;rintro e w3 ⟨⟨v3',rfl⟩,BJ,nZ,fz⟩;have Ec:w3.cell? ⟨wr.heap.size,0,none⟩=some (.string f.name):=(pn fz).trans HN.out;have Gn:=Hd.mk (HS.out.to nZ);have IG:=z7.out _ Gn.out.v;have H3:=Hd.mk (And.intro BJ nZ);clear BJ nZ fz)
    |(at_mapUpdate;refine ayc _ rfl _ _ _ 81 rfl Tryz.underlying9 Tryz.underlying81 (w.heap.size+1) L Fm rfl Gn.out.m (by have:=HS.out.len;omega) f.name rfl q9 (wr.heap.size+1) rfl ?_;intro w4 afe Bl))
   have HE:im w c.features (k+1) (ins L f.name) (fun x=>if x=f.name then wr.heap.size+1 else Fm x) w4:=by
    obtain⟨n1,n2⟩:=HS.out.new
    have hf:=Hf.out
    subst hf
    exact Gn.out.put ax fI H3.out.1 (by omega) (fun n hn=>by have:=n2 n hn;omega) afe Bl
   go_roundw
   case rel=>exact⟨k+1,_,_,by go_num,ax,⟨HE⟩⟩
   case measure=>simp[intOf];omega
 ·obtain rfl:k=c.features.length:=by omega
  go_wp2_with (at_range;refine LD _ rfl _ 81 rfl Tryz.underlying9 69 Tryz.underlying81 mapElem (w.heap.size+1) L (fun s=> .lit (.int .i64 (Fm s))) rfl HS.out.m ?_;intro w4r AB pQ od BM)
  have H0:=Hd.mk (qv.start HS.out pQ od)
  clear pQ od BM hcell
  obtain⟨wo,rfl⟩:∃ wo:World,wo=wr:=⟨wr,rfl⟩
  go_frame
  go_loopw [8] (fun _ wr=>∃ left aI,Hd (qv w c.features L Fm wo.heap.size left aI wr)) (fun _ wr=>wr.rangeLeft (w.heap.size+1) wo.heap.size)
  case atStart=>exact⟨_,AB,H0⟩
  clear H0
  obtain⟨left,aI,HR⟩:=hrel
  have hcell:=z7.out _ HR.out.v
  go_wp2_with (first
   |(at_next;refine LB _ rfl (.tmp 34) rfl Tryz.underlying9 mapElem (fun s=> .map (some (Fm s))) (w.heap.size+1) wo.heap.size L (fun s=> .lit (.int .i64 (Fm s))) (fun s _ v ps h=>Sr h) left aI rfl HR.out.q ?_ ?_))
  ·intro hd
   have HD:=Hd.mk hd
   clear hd
   go_wp2
   go_ret
   exact⟨L,Fm,rfl,HR.out.done HD.out,HR.out.k⟩
  ·intro s1 w' eQ kW D8 me ax eX tA x6
   obtain⟨f,hf,h1,h2,h3,h4,h5⟩:=HR.out.step kW D8 me eX
   have HC:=Hd.mk (awM h1 h2 h3 h4)
   have H5:=Hd.mk h5
   have HL:Hd (w'.rangeLeft (w.heap.size+1) wo.heap.size=eQ∧wr.rangeLeft (w.heap.size+1) wo.heap.size=aI):=⟨me.left_eq,HR.out.q.left_eq⟩
   clear hf h1 h2 h4 h5 me eX hcell
   go_wp2_with (first
    |(go_at_call 64;refine HC.out.mono ?_;rintro e w2 ⟨rfl,cI,gP⟩;have HE:=Hd.mk (H5.out w2 cI gP);clear cI gP))
   go_roundw
   case rel=>exact⟨_,eQ,HE⟩
   case measure=>rw[HE.out.q.left_eq,HL.out.2];exact ax
theorem ayb{P:Program}{ops:Array Oper}{rest:List Oper}{o:Oper}{a:Act}{w:World}{Q:Exit→Act→World→Prop}(hw:Region.wanted o (yielded ops a.tmps)=true)(h:wpList P ops Q (⟨o.dst,o.op,o.type,o.pos,o.after,none⟩::rest) a w):wpList P ops Q (o::rest) a w:=by
 unfold wpList at h ⊢
 rw[Z8 hw]
 rw[Z8 (by simp[Region.wanted])]at h
 exact h
def qC(w:World)(lo:Nat)(v:Value)(L:List ae):Prop:=∃ a cap,v= .slice a L.length cap∧L.length≤maxLen∧∀ i (hi:i<L.length),∃ g off,a=some ⟨g,off,none⟩∧g<lo∧w.cell? ⟨g,off+i,none⟩=some (.string L[i])
def Rk(lo:Nat)(w w':World):Prop:=∀ (k:Nat) (cs:Array Value) (t:TypeId) (f:Nat×Nat),k<lo→w.heap[k]? =some (Obj.cells cs t f)→w'.heap[k]? =w.heap[k]?
theorem qC.SU{w:World}{e:TypeId}{l0 lo:Nat}{v:Value}{L:List ae}(h:names w e l0 v L)(Bv:w.heap.size≤lo):qC w lo v L:=by
 have hl:=h.len
 obtain⟨a,cap,rfl,h1,h2,h3⟩:=h
 refine⟨a,cap,rfl,hl,fun i hi=> ?_⟩
 obtain⟨g,off,cur,g1,g2,g3,g4,g5⟩:=h3 (by omega)
 have:=(ZX.1 g3).1
 exact⟨g,off,g1,by omega,by rw[pn g3];exact g5 i hi⟩
theorem qC.to{w w':World}{lo:Nat}{v:Value}{L:List ae}(h:qC w lo v L)(hk:Rk lo w w'):qC w' lo v L:=by
 obtain⟨a,cap,rfl,hl,h3⟩:=h
 refine⟨a,cap,rfl,hl,fun i hi=> ?_⟩
 obtain⟨g,off,g1,g2,g3⟩:=h3 i hi
 refine⟨g,off,g1,g2,?_⟩
 have hc:∃ cs t f,w.heap[g]? =some (Obj.cells cs t f):=by
  cases hh:w.heap[g]? with
  |none=>simp[World.cell?,hh]at g3
  |some o=>
   cases o with
   |cells cs t f=>exact⟨cs,t,f,rfl⟩
   |_=>simp[World.cell?,hh]at g3
 obtain⟨cs,t,f,hc⟩:=hc
 exact(World.cell?_of_block (a:=⟨g,off+i,none⟩) (hk g cs t f g2 hc)).trans g3
theorem Rk.below{lo:Nat}{w w':World}(h:Below w.heap.size w w'):Rk lo w w':=fun k cs t f _ hc=>h.block k (ZX.1 hc).1
theorem Rk.keep{lo b:Nat}{w w':World}(h:aW w w' [b])(hb:∀ cs t f,w.heap[b]?≠some (Obj.cells cs t f)):Rk lo w w':=fun k cs t f _ hc=>h.block k (ZX.1 hc).1 (by
 rw[ZI];rintro rfl;exact hb _ _ _ hc)
theorem Rk.qJ{lo:Nat}{w w':World}(h:si lo w w'):Rk lo w w':=fun k cs t f hk hc=>h.below k hk (ZX.1 hc).1
theorem yG{w:World}{b:Nat}(h:∃ es c,w.heap[b]? =some (.map es c)):∀ cs t f,w.heap[b]?≠some (Obj.cells cs t f):=fun cs t f e=>by
 obtain⟨es,c,h⟩:=h;rw[h]at e;cases e
theorem J8{w:World}{b r:Nat}(h:∃ es c,w.heap[b]? =some (.map es c))(hr:∃ x y z u,w.heap[r]? =some (.mapIter x y z u)):b≠r:=fun e=>by
 subst e
 obtain⟨es,c,h⟩:=h
 obtain⟨x,y,z,u,hr⟩:=hr
 rw[h]at hr;cases hr
structure iu(w:World)(fs:List aq)(bA bd lo:Nat)(vN:Value)(L:List ae)(F:ae→Nat)(out:List ae)(wr:World)(vl:Value):Prop where
 v:names wr 9 lo vl out
 d:bV wr bd out
 a:iq wr bA w.heap.size fs L F
 o:jA (deps fs) (bh fs) out
 k:Below w.heap.size w wr
 r:qC wr lo vN (bh fs)
 l1:w.heap.size≤bd
 l2:bd<lo
 l3:lo≤wr.heap.size
 n1:bA≠bd
 n2:∀ n∈L,F n≠bd
theorem iq.names{w:World}{b lo:Nat}{fs:List aq}{L:List ae}{F:ae→Nat}(h:iq w b lo fs L F){S:List ae}(h1:bO S)(h2:∀ s,s∈S↔s∈L):S=bh fs:=oP h1 (EN fs) fun x=>by rw[h2,h.l,qc]
theorem iq.len{w:World}{b lo:Nat}{fs:List aq}{L:List ae}{F:ae→Nat}(h:iq w b lo fs L F):L.length≤fs.length:=Zk (iN h.m.1 fun n hn=>qc.2 ((h.l n).1 hn)) (EM fs)
theorem iu.start{w w1 w2 w4:World}{fs:List aq}{bA:Nat}{o:Obj}{vN:Value}{L:List ae}{F:ae→Nat}{e:TypeId}{l0:Nat}(ib:w1=w.alloc o)(ha:iq w2 bA (w.heap.size+1) fs L F)(hb:Below (w.heap.size+1) w1 w2)(hn:names w4 e l0 vN (bh fs))(h4:Below w2.heap.size w2 w4):
  iu w fs bA w4.heap.size (w4.heap.size+1) vN L F [] (w4.alloc (.map #[] 0)) (.slice none 0 0):=by
 subst ib
 have e1:(w.alloc o).heap.size=w.heap.size+1:=by simp
 have l1:=hb.size
 rw[e1]at l1
 have l2:=h4.size
 have kN:Below w.heap.size w w2:=uO hb
 have hk:aW w4 (w4.alloc (.map #[] 0)) []:=(aW.refl w4 []).alloc _
 have xT:=ha.below h4
 have lt:=xT.m.lt
 refine⟨⟨none,0,rfl,by simp,by simp,fun h=>absurd h (by omega)⟩,we w4 _ _ _,⟨(xT.keep hk (by simp) (by simp)).m,xT.l,(xT.keep hk (by simp) (by simp)).s,fun n hn=>by have:=xT.g n hn;omega⟩,jA.start _ _,(kN.trans (gx h4 (by omega))).trans (hk.below (by omega) (by simp)),?_,by omega,by omega,by simp,by omega,fun n hn=> ?_⟩
 ·exact(qC.SU (hn.alloc _) (by simp))
 ·obtain⟨D,hD,_⟩:=xT.s n hn
  have:=hD.lt;omega
theorem iu.below{w:World}{fs:List aq}{bA bd lo:Nat}{vN:Value}{L:List ae}{F:ae→Nat}{out:List ae}{wr w':World}{vl:Value}(h:iu w fs bA bd lo vN L F out wr vl)(hb:Below wr.heap.size wr w'):iu w fs bA bd lo vN L F out w' vl:=
 ⟨yF h.v hb,rM h.d hb,h.a.below hb,h.o,h.k.trans (gx hb h.k.size),h.r.to (.below hb),h.l1,h.l2,Zk h.l3 hb.size,h.n1,h.n2⟩
theorem iu.iter{w:World}{fs:List aq}{bA bd lo:Nat}{vN:Value}{L:List ae}{F:ae→Nat}{out:List ae}{wr w':World}{vl:Value}{r:Nat}(h:iu w fs bA bd lo vN L F out wr vl)(hit:∃ x y z u,wr.heap[r]? =some (.mapIter x y z u))(hr:lo≤r)(hg:wr.grownBy w' (some r)):iu w fs bA bd lo vN L F out w' vl:=by
 have hk:=aW.kh hg
 have hc:∀ cs t f,wr.heap[r]?≠some (Obj.cells cs t f):=fun cs t f e=>by obtain⟨x,y,z,u,hit⟩:=hit;rw[hit]at e;cases e
 have l1:=h.l1
 have l2:=h.l2
 have l3:=h.l3
 refine⟨h.v.grown hg hc,fW h.d hk (by simpa using J8 h.d.isMap hit),h.a.keep hk (by simpa using J8 h.a.m.isMap hit) (fun n hn=> ?_),h.o,h.k.trans (hk.below h.k.size (by simp;omega)),h.r.to (.keep hk hc),h.l1,h.l2,Zk h.l3 hg.size,h.n1,h.n2⟩
 obtain⟨D,hD,_⟩:=h.a.s n hn
 simpa using J8 hD.isMap hit
theorem iu.mid{w:World}{fs:List aq}{bA bd lo:Nat}{vN:Value}{L:List ae}{F:ae→Nat}{out:List ae}{wr w2:World}{vl:Value}(h:iu w fs bA bd lo vN L F out wr vl)(hg:wr.grownBy w2 (some bd))(o:Obj):names (w2.alloc o) 9 lo vl out∧lo≤(w2.alloc o).heap.size:=by
 have:=h.l3
 have:=hg.size
 exact⟨(h.v.grown hg (yG h.d.isMap)).alloc o,by simp;omega⟩
theorem iu.put{w:World}{fs:List aq}{bA bd lo:Nat}{vN:Value}{L:List ae}{F:ae→Nat}{out:List ae}{wr w2 w3:World}{vl ly:Value}{s:ae}(h:iu w fs bA bd lo vN L F out wr vl)(hn:kj (deps fs) (bh fs) out=some s)(hs:bV w2 bd (ins out s))(hg:wr.grownBy w2 (some bd))(o:Obj)(hv:names w3 9 lo ly (out++[s]))(hc:si lo (w2.alloc o) w3):
  iu w fs bA bd lo vN L F (out++[s]) w3 ly:=by
 have hk:=aW.kh hg
 have l1:=h.l1
 have l2:=h.l2
 have l3:=h.l3
 have lw:=h.k.size
 have sz:=hg.size
 have ep:s∉out:=(KF.1 (List.find?_some hn)).1
 have e1:ins out s=out++[s]:=by unfold ins;rw[Z9 ep]
 have ha:iq w2 bA w.heap.size fs L F:=h.a.keep hk (by simpa using h.n1) (fun n hn=>by simpa using h.n2 n hn)
 have xS:iq (w2.alloc o) bA w.heap.size fs L F:=ha.keep ((aW.refl w2 []).alloc o) (by simp) (by simp)
 have b2:Below w.heap.size wr w2:=hk.below lw (by simp;omega)
 have b3:Below w.heap.size w2 (w2.alloc o):=⟨rfl,rfl,rfl,by simp,fun k hk=>heap_alloc_old w2 o (by omega)⟩
 have b4:Below w.heap.size (w2.alloc o) w3:=⟨hc.os,hc.tape,hc.output,hc.size,fun k hk=>hc.below k (by omega) (by simp;omega)⟩
 refine⟨hv,?_,⟨xS.m.qJ hc,xS.l,fun n hn=> ?_,xS.g⟩,(h.o.step hn).1,((h.k.trans b2).trans b3).trans b4,?_,h.l1,h.l2,?_,h.n1,h.n2⟩
 ·rw[← e1];exact(dy.alloc hs o).qJ hc
 ·obtain⟨D,h1,h2⟩:=xS.s n hn
  exact⟨D,h1.qJ hc,h2⟩
 ·exact((h.r.to (.keep hk (yG h.d.isMap))).to (.below (((aW.refl w2 []).alloc o).below (ZR _) (by simp)))).to (.qJ hc)
 ·have:=hc.size;simp at this;omega
structure qB(w:World)(fs:List aq)(bA bd lo:Nat)(vN:Value)(L:List ae)(F:ae→Nat)(out:List ae)(s:ae)(D:List ae)(r:Nat)(left:ae→Prop)(aI:Nat)(b:Bool)(wr:World)(vl:Value):Prop where
 o:iu w fs bA bd lo vN L F out wr vl
 q:fj wr Tryz.prog 9 (plainElem Tryz.prog 4) (F s) r D (fun _=>tt) left aI
 b:b=true↔s∉out∧∀ m∈D,¬left m→m∈out
 r:lo≤r
theorem qB.start{w:World}{fs:List aq}{bA bd lo:Nat}{vN:Value}{L:List ae}{F:ae→Nat}{out:List ae}{s:ae}{D:List ae}{aI:Nat}{wr w':World}{vl:Value}(h:iu w fs bA bd lo vN L F out wr vl)(hr:fj w' Tryz.prog 9 (plainElem Tryz.prog 4) (F s) wr.heap.size D (fun _=>tt) (·∈D) aI)(hg:wr.grownBy w' none):
  qB w fs bA bd lo vN L F out s D wr.heap.size (·∈D) aI (!decide (s∈out)) w' vl:=
 ⟨h.below ((aW.ET hg []).below (ZR _) (by simp)),hr,by
  rw[YW,decide_eq_false_iff_not]
  exact⟨fun h1=>⟨h1,fun m hm hn=>absurd hm hn⟩,fun h1=>h1.1⟩,h.l3⟩
theorem qB.next{w:World}{fs:List aq}{bA bd lo:Nat}{vN:Value}{L:List ae}{F:ae→Nat}{out:List ae}{s:ae}{D:List ae}{r:Nat}{left:ae→Prop}{aI eQ:Nat}{b:Bool}{wr w':World}{vl:Value}{m:ae}(h:qB w fs bA bd lo vN L F out s D r left aI b wr vl)(hm:m∈D)
  (hr:fj w' Tryz.prog 9 (plainElem Tryz.prog 4) (F s) r D (fun _=>tt) (fun x=>left x∧x≠m) eQ) (hg:wr.grownBy w' (some r)):qB w fs bA bd lo vN L F out s D r (fun x=>left x∧x≠m) eQ (b && decide (m∈out)) w' vl∨¬left m:=by
 by_cases hl:left m
 ·refine .inl ⟨h.o.iter h.q.iter h.r hg,hr,?_,h.r⟩
  rw[Z0,h.b,Zq]
  constructor
  ·rintro⟨⟨h1,h2⟩,h3⟩
   refine⟨h1,fun x hx hn=> ?_⟩
   by_cases e:x=m
   ·rw[e];exact h3
   ·exact h2 x hx fun h'=>hn ⟨h',e⟩
  ·rintro⟨h1,h2⟩
   exact⟨⟨h1,fun x hx hn=>h2 x hx fun h'=>hn h'.1⟩,h2 m hm fun h'=>h'.2 rfl⟩
 ·exact .inr hl
theorem qB.done{w:World}{fs:List aq}{bA bd lo:Nat}{vN:Value}{L:List ae}{F:ae→Nat}{out:List ae}{s:ae}{D:List ae}{r:Nat}{left:ae→Prop}{aI:Nat}{b:Bool}{wr:World}{vl:Value}(h:qB w fs bA bd lo vN L F out s D r left aI b wr vl)(hd:∀ s:ae,s.size≤maxLen→¬left s)(hD:∀ m,m∈D↔m∈deps fs s):b=ready (deps fs) out s:=by
 rw[YF,h.b,KF]
 constructor
 ·rintro⟨h1,h2⟩;exact⟨h1,fun m hm=>h2 m ((hD m).2 hm) (hd m (h.q.2.1 m ((hD m).2 hm)))⟩
 ·rintro⟨h1,h2⟩;exact⟨h1,fun m hm _=>h2 m ((hD m).1 hm)⟩
theorem ag4{g:ae→List ae}{N out:List ae}{k:Nat}(hk:k<N.length)(hp:∀ j (hj:j<N.length),j<k→ready g out N[j]=false)(h:ready g out N[k]=true):kj g N out=some N[k]:=by
 unfold kj
 rw[List.find?_eq_some_iff_getElem]
 exact⟨h,k,hk,rfl,fun j hj=>by simpa using hp j (Nat.lt_trans hj hk) hj⟩
theorem ag5{g:ae→List ae}{N out:List ae}(hp:∀ j (hj:j<N.length),ready g out N[j]=false):kj g N out=none:=by
 unfold kj
 rw[List.find?_eq_none]
 intro x hx
 obtain⟨j,hj,rfl⟩:=YK hx
 simpa using hp j hj
end Go.Proofs.YtcccbdelfhgmlaaGreatDoor
