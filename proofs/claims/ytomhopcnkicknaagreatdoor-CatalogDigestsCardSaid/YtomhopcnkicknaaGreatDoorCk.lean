/- catalog.dependencies: the states of its walk. -/
import Derived.Test.YtomhopcnkicknaaGreatDoorCi
import Derived.Test.YtomhopcnkicknaaGreatDoorSet
set_option linter.unusedVariables false
set_option linter.unusedSimpArgs false
namespace Go.Proofs.YtomhopcnkicknaaGreatDoor
open _root_.Go.Proofs.Tryz
open Go.RowKit Go.Proofs Go.Tb Go.Maps
open Go.Sx (AV Mem RL R M0 Glob)
theorem L9{α:Type}[Inhabited α]{l:List α}{i:Nat}(h:i<l.length):l.getD i default∈l:=by
 rw[show l.getD i default=l[i] by simp[ZY,h]];exact Zf _
structure sr(fs:List aj):Prop where
 f:∀ f∈fs,f.body.aR.length≤274877906944∧f.body.bO.length≤274877906944∧(∀ s∈f.body.aR,s.size≤maxLen)∧∀ s∈f.body.bO,s.size≤maxLen
 n:∀ f∈fs,f.name.size≤maxLen
 l:fs.length≤274877906944
theorem agn{w w':World}{b:Nat}{L:List ae}{f:ae→Nat}(h:aNy w b L f)(hb:Below w.heap.size w w'):aNy w' b L f:=OR h (aZ.wz hb []) (by simp)
theorem aj.parts{M:Mem}{f:aj}{C:Array Value}(h:RL M f.cells C.toList):C.size=18∧C.all (·.oneCell')=true∧C[0]? =some (.string f.name):=by
 refine⟨?_,by rw[← Array.all_toList];exact h.uR rfl,?_⟩
 ·have h1:=h.1
  have h2:f.cells.length=18:=rfl
  have h3:C.toList.length=C.size:=Zi
  omega
 ·obtain⟨v,h1,h2⟩:=h.get (i:=0) (x:=sv f.name) rfl
  rw[h2.aC]at h1
  simpa using h1
theorem az.aR{M:Mem}{c:az}{C:Array Value}(h:RL M c.cells C.toList):∃ v0 v2 v3 a cap,C= #[v0,.slice a c.features.length cap,v2,v3]∧c.features.length≤maxLen∧
  ∀ i (hi:i<c.features.length),∃ bb off,a=some ⟨bb,off,none⟩∧∃ F:Array Value,RL M (c.features.getD i default).cells F.toList∧F.toList.length=18∧∀ j (hj:j<F.toList.length),M bb (off+i * 18+j)=some F.toList[j]:=by
 obtain⟨v0,l0,e0,h0,h⟩:=h.bL
 obtain⟨v1,l1,rfl,h1,h⟩:=h.bL
 obtain⟨v2,l2,rfl,h2,h⟩:=h.bL
 obtain⟨v3,l3,rfl,h3,h⟩:=h.bL
 obtain rfl:=h.nR
 have hlen:=QA h1
 rw[Z7]at hlen
 obtain⟨a,cap,rfl,hA⟩:=EG h1
 rw[Z7]at e0
 refine⟨v0,v2,v3,a,cap,?_,hlen,fun i hi=> ?_⟩
 ·rw[← Array.toList_inj,e0]
 ·obtain⟨bb,off,e,cs',g1,g2,g3⟩:=hA i (by rw[Z7];exact hi)
  refine⟨bb,off,e,cs'.toArray,?_,by simpa using g2,fun j hj=>by simpa using g3 j (by simpa using hj)⟩
  rw[ZF]at g1
  rw[show c.features.getD i default=c.features[i] by simp[ZY,hi]]
  simpa using g1
structure gI(w:World)(fs:List aj)(i:Nat)(L:List ae)(F:ae→Nat)(wr:World):Prop where
 m:aNy wr (w.heap.size+1) L F
 l:∀ n,n∈L↔∃ j,j<i∧(fs.getD j default).name=n
 s:∀ n∈L,∃ f,findF fs n=some f∧bN wr (F n) (cR [] f.body.aR)
 inj:∀ a∈L,∀ b∈L,F a=F b→a=b
 g:∀ n∈L,w.heap.size+2<F n
 k:Below w.heap.size w wr
 v:wr.heap[w.heap.size+2]? =some (.cells #[.map (some (w.heap.size+1))] 94 (0,0))
theorem gI.start(w:World)(o:Obj)(fs:List aj)(F:ae→Nat):gI w fs 0 [] F (((w.alloc o).alloc (.map #[] 0)).alloc (.cells #[.map (some (w.heap.size+1))] 94)):=by
 have h1:=Q2 (w.alloc o) prog 9 mapElem (fun s=> .lit (.int .i64 (F s)))
 rw[show(w.alloc o).heap.size=w.heap.size+1 by simp]at h1
 have h2:=heap_alloc_new ((w.alloc o).alloc (.map #[] 0)) (.cells #[.map (some (w.heap.size+1))] 94)
 rw[show((w.alloc o).alloc (.map #[] 0)).heap.size=w.heap.size+2 by simp]at h2
 exact⟨h1.alloc _,fun n=>⟨fun h=>(by cases h),fun⟨j,hj,_⟩=>absurd hj (by omega)⟩,fun n h=>(by cases h),fun a h=>(by cases h),fun a h=>(by cases h),((((aZ.refl w []).alloc _).alloc _).alloc _).below (ZR _) (by simp),h2⟩
theorem gI.to{w:World}{fs:List aj}{i:Nat}{L:List ae}{F:ae→Nat}{wr w':World}(h:gI w fs i L F wr)(hb:Below wr.heap.size wr w'):gI w fs i L F w':=
 ⟨agn h.m hb,h.l,fun n hn=>by obtain⟨f,h1,h2⟩:=h.s n hn;exact⟨f,h1,qo h2 hb⟩,h.inj,h.g,h.k.trans (fR hb h.k.size),by rw[hb.block _ (Z0.1 h.v).1];exact h.v⟩
theorem gI.skip{w:World}{fs:List aj}{i:Nat}{L:List ae}{F:ae→Nat}{wr:World}(h:gI w fs i L F wr)(hm:(fs.getD i default).name∈L):gI w fs (i+1) L F wr:=
 ⟨h.m,fun n=>by
  rw[h.l]
  constructor
  ·rintro⟨j,hj,e⟩;exact⟨j,by omega,e⟩
  ·rintro⟨j,hj,e⟩
   rcases Yv (Yp hj)with h1|rfl
   ·exact⟨j,h1,e⟩
   ·rw[e]at hm;exact(h.l n).1 hm,h.s,h.inj,h.g,h.k,h.v⟩
theorem LV{fs:List aj}{n:ae}{i:Nat}(hi:i<fs.length)(hn:(fs.getD i default).name=n)(hp:∀ j,j<i→(fs.getD j default).name≠n):findF fs n=some (fs.getD i default):=by
 unfold findF
 rw[show fs.getD i default=fs[i] by simp[ZY,hi]]at hn ⊢
 rw[YM]
 refine⟨by simpa using hn,i,hi,rfl,fun j hj=> ?_⟩
 have:=hp j hj
 rw[show fs.getD j default=fs[j] by simp[ZY,Nat.lt_trans hj hi]]at this
 simpa using this
theorem gI.put{w:World}{fs:List aj}{i:Nat}{L:List ae}{F:ae→Nat}{wr w':World}{b:Nat}(h:gI w fs i L F wr)(hi:i<fs.length)(hm:(fs.getD i default).name∉L)(hs:bN wr b (cR [] (fs.getD i default).body.aR))(hb:w.heap.size+2<b)(FU:∀ n∈L,F n≠b)
  (hw:aNy w' (w.heap.size+1) (ins L (fs.getD i default).name) (fun x=>if x=(fs.getD i default).name then b else F x)) (hg:wr.grownBy w' (some (w.heap.size+1))):gI w fs (i+1) (ins L (fs.getD i default).name) (fun x=>if x=(fs.getD i default).name then b else F x) w':=by
 have hk:=aZ.j7 hg
 refine⟨hw,fun n=> ?_,fun n hn=> ?_,fun x hx y hy e=> ?_,fun n hn=> ?_,h.k.trans (hk.below h.k.size (by simp)),?_⟩
 ·rw[oR,h.l]
  constructor
  ·rintro(rfl|⟨j,hj,e⟩)
   ·exact⟨i,by omega,rfl⟩
   ·exact⟨j,by omega,e⟩
  ·rintro⟨j,hj,e⟩
   rcases Yv (Yp hj)with h1|rfl
   ·exact .inr ⟨j,h1,e⟩
   ·exact .inl e.symm
 ·by_cases e:n=(fs.getD i default).name
  ·refine⟨fs.getD i default,LV hi e.symm (fun j hj e'=>hm ((h.l _).2 ⟨j,hj,e'.trans e⟩)),?_⟩
   rw[Z3 e];exact fE hs hk (by simp;omega)
  ·have jQ:n∈L:=by
    rcases oR.1 hn with h1|h1
    ·exact absurd h1 e
    ·exact h1
   obtain⟨f,h1,h2⟩:=h.s n jQ
   have:=h.g n jQ
   refine⟨f,h1,?_⟩
   rw[Z6 e];exact fE h2 hk (by simp;omega)
 ·have oN:=oR.1 hx
  have NP:=oR.1 hy
  by_cases e1:x=(fs.getD i default).name<;>by_cases e2:y=(fs.getD i default).name
  ·rw[e1,e2]
  ·rw[Z3 e1,Z6 e2]at e
   exact absurd e.symm (FU y (NP.resolve_left e2))
  ·rw[Z6 e1,Z3 e2]at e
   exact absurd e (FU x (oN.resolve_left e1))
  ·rw[Z6 e1,Z6 e2]at e
   exact h.inj x (oN.resolve_left e1) y (NP.resolve_left e2) e
 ·show _<if n=_ then b else F n
  split
  ·exact hb
  ·rename_i e
   exact h.g n ((oR.1 hn).resolve_left e)
 ·rw[hk.block _ (Z0.1 h.v).1 (by simp)];exact h.v
theorem gI.len{w:World}{fs:List aj}{i:Nat}{L:List ae}{F:ae→Nat}{wr:World}(h:gI w fs i L F wr):L.length≤i:=by
 have h1:=gn (a:=L) (b:=(List.range i).map fun j=>(fs.getD j default).name) h.m.1 fun n hn=>by
  obtain⟨j,hj,e⟩:=(h.l n).1 hn
  exact Y9.2 ⟨j,Y6.2 hj,e⟩
 simpa using h1
theorem gI.new{w:World}{fs:List aj}{i:Nat}{L:List ae}{F:ae→Nat}{wr:World}(h:gI w fs i L F wr):w.heap.size+2<wr.heap.size∧∀ n∈L,F n<wr.heap.size:=
 ⟨(Z0.1 h.v).1,fun n hn=>by obtain⟨f,_,h2⟩:=h.s n hn;exact h2.lt⟩
theorem aar{f:aj}{fs:List aj}(hF:sr fs)(hf:f∈fs){wr w2:World}{M:Mem}{Cf:Array Value}(hI:Sx.Inv prog M ⟨wr,M⟩ [] wr)(c9:Below wr.heap.size wr w2)(dL:w2.heap.size=wr.heap.size+1)(dr:w2.heap[wr.heap.size]? =some (.cells Cf 44 (0,0)))(mY:RL M f.cells Cf.toList):
  Calls prog 52 #[.agg ((Cf.toList.drop 5).take 12).toArray,.map (some (wr.heap.size+1)),.map (some (wr.heap.size+2))] ((w2.alloc (.map #[] 0)).alloc (.map #[] 0)) fun e w3=>(∃ v,e= .returned v)∧bN w3 (wr.heap.size+1) (cR [] f.body.aR)∧
   Below wr.heap.size wr w3∧w3.heap[wr.heap.size]? =some (.cells Cf 44 (0,0)):=by
 have cx:Below wr.heap.size wr ((w2.alloc (.map #[] 0)).alloc (.map #[] 0)):=(c9.alloc (by omega) _).alloc (by simp;omega) _
 have h1:bN ((w2.alloc (.map #[] 0)).alloc (.map #[] 0)) (wr.heap.size+1) []:=by
  have:=ui w2 prog 9 4
  rw[dL]at this;exact this.alloc _
 have h2:bN ((w2.alloc (.map #[] 0)).alloc (.map #[] 0)) (wr.heap.size+2) []:=by
  have:=ui (w2.alloc (.map #[] 0)) prog 9 4
  rw[show(w2.alloc (.map #[] 0)).heap.size=wr.heap.size+2 by simp;omega]at this;exact this
 obtain⟨l1,l2,l3,l4⟩:=hF.f f hf
 have bC:((w2.alloc (.map #[] 0)).alloc (.map #[] 0)).heap.size=wr.heap.size+3:=by simp;omega
 refine(Bx f.body.size f.body (ZR _) M _ (sJ hI cx) ((Cf.toList.drop 5).take 12).toArray (by simpa using Kq mY) (wr.heap.size+1) (wr.heap.size+2) [] [] h1 h2 (by omega) (by simp;omega) (by simp;omega) l3 l4).mono fun e w3 ⟨g1,g2,g3,g4⟩=>⟨g1,g2,?_,?_⟩
 ·exact cx.trans (g4.below (by omega) (by simp))
 ·rw[g4.block _ (by omega) (by simp),heap_alloc_old _ _ (by simp;omega),heap_alloc_old _ _ (by omega)];exact dr
structure pk(w:World)(fs:List aj)(L:List ae)(F:ae→Nat)(r:Nat)(left:ae→Prop)(aY:Nat)(wr:World):Prop where
 q:eQ wr prog 9 mapElem (w.heap.size+1) r L (fun s=> .lit (.int .i64 (F s))) left aY
 l:∀ n,n∈L↔jt fs n=true
 s:∀ n∈L,∃ f,findF fs n=some f∧(left n→bN wr (F n) (cR [] f.body.aR))∧(¬left n→bN wr (F n) ((cR [] f.body.aR).filter fun s=>decide (s∈L)))
 inj:∀ a∈L,∀ b∈L,F a=F b→a=b
 g:∀ n∈L,w.heap.size+2<F n
 k:Below w.heap.size w wr
 v:wr.heap[w.heap.size+2]? =some (.cells #[.map (some (w.heap.size+1))] 94 (0,0))
 rr:w.heap.size+2<r
theorem pk.start{w:World}{fs:List aj}{L:List ae}{F:ae→Nat}{wr w':World}{aY:Nat}(h:gI w fs fs.length L F wr)(hr:eQ w' prog 9 mapElem (w.heap.size+1) wr.heap.size L (fun s=> .lit (.int .i64 (F s))) (·∈L) aY)(hg:wr.grownBy w' none):pk w fs L F wr.heap.size (·∈L) aY w':=by
 have hk:=aZ.C4 hg []
 have lt:=(Z0.1 h.v).1
 refine⟨hr,fun n=> ?_,fun n hn=> ?_,h.inj,h.g,h.k.trans (hk.below h.k.size (by simp)),by rw[hk.block _ lt (by simp)];exact h.v,lt⟩
 ·rw[h.l,CB]
  constructor
  ·rintro⟨j,hj,e⟩
   refine⟨fs.getD j default,?_,e⟩
   rw[show fs.getD j default=fs[j] by simp[ZY,hj]];exact Zf _
  ·rintro⟨f,hf,e⟩
   obtain⟨j,hj,rfl⟩:=Zj hf
   exact⟨j,hj,by rw[show fs.getD j default=fs[j] by simp[ZY,hj]];exact e⟩
 ·obtain⟨f,h1,h2⟩:=h.s n hn
  exact⟨f,h1,fun _=>fE h2 hk (by simp),fun hl=>absurd hn hl⟩
theorem pk.step{w:World}{fs:List aj}{L:List ae}{F:ae→Nat}{r:Nat}{left:ae→Prop}{aY eD:Nat}{wr w':World}{s:ae}(h:pk w fs L F r left aY wr)(kO:s∈L)(hl:left s)(hr:eQ w' prog 9 mapElem (w.heap.size+1) r L (fun s=> .lit (.int .i64 (F s))) (fun x=>left x∧x≠s) eD)(hg:wr.grownBy w' (some r)):
  ∃ f,findF fs s=some f∧bN w' (F s) (cR [] f.body.aR)∧aNy w' (w.heap.size+1) L F∧w'.cell? ⟨w.heap.size+2,0,none⟩=some (.map (some (w.heap.size+1)))∧F s≠w.heap.size+1∧
   ∀ w2,bN w2 (F s) ((cR [] f.body.aR).filter fun s=>decide (s∈L))→w'.grownBy w2 (some (F s))→pk w fs L F r (fun x=>left x∧x≠s) eD w2:=by
 have hk:=aZ.j7 hg
 have rr:=h.rr
 obtain⟨f,h1,h2,_⟩:=h.s s kO
 have gs:=h.g s kO
 obtain⟨x,y,z,u,hit⟩:=h.q.iter
 have ne:∀ n∈L,F n≠r:=fun n hn e=>by
  obtain⟨f',_,h3,h4⟩:=h.s n hn
  have:∃ D,bN wr (F n) D:=by
   by_cases hl:left n
   ·exact⟨_,h3 hl⟩
   ·exact⟨_,h4 hl⟩
  obtain⟨D,hD⟩:=this
  obtain⟨es,c,hm⟩:=hD.isMap
  rw[e,hit]at hm;cases hm
 have hv:w'.heap[w.heap.size+2]? =some (.cells #[.map (some (w.heap.size+1))] 94 (0,0)):=by rw[hk.block _ (Z0.1 h.v).1 (by simp;omega)];exact h.v
 refine⟨f,h1,fE (h2 hl) hk (by simpa using ne s kO),hr.dh,by simp[World.cell?,hv],by omega,fun w2 dL il=> ?_⟩
 have c9:=aZ.j7 il
 refine⟨hr.kept il (by simp;omega) (by simpa using fun e=>ne s kO e.symm),h.l,fun n hn=> ?_,h.inj,h.g,(h.k.trans (hk.below h.k.size (by simp;omega))).trans (c9.below (by have:=h.k.size;have:=hk.size;omega) (by simp;omega)),by rw[c9.block _ (Z0.1 hv).1 (by simp;omega)];exact hv,rr⟩
 obtain⟨f',g1,g2,g3⟩:=h.s n hn
 by_cases e:n=s
 ·subst e
  rw[h1]at g1;cases g1
  exact⟨f,h1,fun hl=>absurd rfl hl.2,fun _=>dL⟩
 ·have bB:F n≠F s:=fun e'=>e (h.inj n hn s kO e')
  refine⟨f',g1,fun hl=> ?_,fun hl=> ?_⟩
  ·exact fE (fE (g2 hl.1) hk (by simpa using ne n hn)) c9 (by simpa using bB)
  ·exact fE (fE (g3 fun h'=>hl ⟨h',e⟩) hk (by simpa using ne n hn)) c9 (by simpa using bB)
structure gJ(w:World)(b lo:Nat)(fs:List aj)(L:List ae)(F:ae→Nat):Prop where
 m:aNy w b L F
 l:∀ n,n∈L↔jt fs n=true
 s:∀ n∈L,∃ D,bN w (F n) D∧∀ m,m∈D↔m∈deps fs n
 g:∀ n∈L,lo≤F n
theorem pk.done{w:World}{fs:List aj}{L:List ae}{F:ae→Nat}{r:Nat}{left:ae→Prop}{aY:Nat}{wr:World}(h:pk w fs L F r left aY wr)(hd:∀ s:ae,s.size≤maxLen→¬left s):gJ wr (w.heap.size+1) w.heap.size fs L F:=by
 refine⟨h.q.dh,h.l,fun n hn=> ?_,fun n hn=>by have:=h.g n hn;omega⟩
 obtain⟨f,h1,_,h3⟩:=h.s n hn
 refine⟨_,h3 (hd n (h.q.2.1 n hn)),fun m=> ?_⟩
 rw[Zh,qa,EW]
 simp only[Zn,h.l]
 constructor
 ·rintro⟨h4|h4,h5⟩
  ·exact⟨f,h1,h4,h5⟩
  ·cases h4
 ·rintro⟨f',h4,h5,h6⟩
  rw[h1]at h4;cases h4
  exact⟨.inl h5,h6⟩
theorem gJ.bY{w w':World}{b lo:Nat}{fs:List aj}{L:List ae}{F:ae→Nat}{l:List Nat}(h:gJ w b lo fs L F)(hk:aZ w w' l)(hb:b∉l)(hl:∀ n∈L,F n∉l):gJ w' b lo fs L F:=
 ⟨OR h.m hk hb,h.l,fun n hn=>by obtain⟨D,h1,h2⟩:=h.s n hn;exact⟨D,fE h1 hk (hl n hn),h2⟩,h.g⟩
theorem gJ.below{w w':World}{b lo:Nat}{fs:List aj}{L:List ae}{F:ae→Nat}(h:gJ w b lo fs L F)(hb:Below w.heap.size w w'):gJ w' b lo fs L F:=h.bY (aZ.wz hb []) (by simp) (by simp)
set_option maxHeartbeats 4000000 in
set_option maxRecDepth 1000000 in
theorem K3(c:az)(hF:sr c.features){M:Mem}{w:World}(hI:Sx.Inv prog M ⟨w,M⟩ [] w){Cc:Array Value}(hC:RL M c.cells Cc.toList):
  Calls prog 56 #[.agg Cc] w fun e W'=>∃ L Fm,e= .returned (.map (some (w.heap.size+1)))∧gJ W' (w.heap.size+1) w.heap.size c.features L Fm∧Below w.heap.size w W':=by
 obtain⟨v0,v2,v3,aF,cF,rfl,hlen,Mp⟩:=az.aR hC
 have nr:∀ (w:World) (r:Option Nat),(binOp .eql 86 (.map r) (.map none)).run prog w= .ok (.bool r.isNone) w:=fun w r=>run_eql_map_nil w _ _ _ r underlying86
 have Cg:= @run_makeMap prog
 have HI:=Hd.mk hI
 have HF:=Hd.mk hF
 have Sq:=Hd.mk Mp
 have oH:c.features.length≤9223372036854775807:=hlen
 have Ch:maxLen=9223372036854775807:=rfl
 clear hI hF Mp hlen hC
 have F1:∀ (wr:World),wr.heap[w.heap.size+2]? =some (.cells #[.map (some (w.heap.size+1))] 94 (0,0))→wr.cell? ⟨w.heap.size+2,0,none⟩=some (.map (some (w.heap.size+1))):=fun wr h=>by simp[World.cell?,h]
 have xC:=Hd.mk F1
 clear F1
 go_enter func56,ntmps56
 go_wp2
 go_loopw [13] (fun i wr=>∃ (k:Nat) (L:List ae) (Fm:ae→Nat),i= .int .i64 k∧k≤c.features.length∧Hd (gI w c.features k L Fm wr)) (fun i _=>c.features.length-(intOf i).toNat)
 case atStart=>exact⟨0,[],fun _=>0,rfl,Z1 _,⟨gI.start w _ c.features _⟩⟩
 obtain⟨k,L,Fm,rfl,hk,HS⟩:=hrel
 have hcell:=xC.out _ HS.out.v
 by_cases ax:k<c.features.length
 ·obtain⟨bb,off,rfl,Cf,mY,hl,hM⟩:=Sq.out k ax
  obtain⟨f,hf⟩:∃ f,f=c.features.getD k default:=⟨_,rfl⟩
  rw[← hf]at mY
  obtain⟨cj,tH,tG⟩:=aj.parts mY
  have te:Hd (Sx.en prog 44=some (true,Cf.toList.length)):=⟨by rw[hl];kernel_rfl⟩
  have A9:Hd (Sx.en prog 42=some (true,((Cf.toList.drop 5).take 12).toArray.toList.length)):=⟨by rw[Ks cj];kernel_rfl⟩
  have nC:(prog.info? 44).map (·.size)=some Cf.size:=(by rw[cj];kernel_rfl)
  have JR:=Hd.mk (sJ HI.out HS.out.k)
  have HM:Hd (∀ j (hj:j<Cf.toList.length),wr.cell? ⟨bb,off+k * 18+j,none⟩=some Cf.toList[j]):=⟨fun j hj=>JR.out.cQ _ _ _ (hM j hj)⟩
  have Gq:f.name.size≤maxLen:=HF.out.n f (hf ▸ L9 ax)
  have HR:=Hd.mk mY
  have HN:=Hd.mk tG
  have Hf:=Hd.mk hf
  clear hM hl mY tG hf
  by_cases dq:f.name∈L
  ·go_wp2_with (first
    |(show wpList _ _ _ (⟨some 16,_,_,_,_,_⟩::_) _ _;refine pC rfl 44 (.tmp 15) rfl bb (off+k * 18) rfl Cf HM.out te.out ?_)
    |(show wpList _ _ _ (⟨none,.store _ _ _,_,_,_,_⟩::_) _ _;refine wpList_store_row rfl 44 (.tmp 5) (.tmp 16) rfl wr.heap.size Cf rfl rfl 44 _ (heap_alloc_new _ _) nC cj.symm tH ?_;generalize jV:(World.setRow (World.alloc wr _) wr.heap.size Cf)=w2;have c9:Below wr.heap.size wr w2:=jV ▸ uT _ _ _;have dr:w2.heap[wr.heap.size]? =some (.cells Cf 44 (0,0)):=jV ▸ setRow_heap _ _ _ _ _ _ (heap_alloc_new _ _);have dL:w2.heap.size=wr.heap.size+1:=jV ▸ (by simp[World.setRow]);have im:w2.cell? ⟨wr.heap.size,0,none⟩=some (.string f.name):=(lh dr).trans HN.out;have uK:=Hd.mk (HS.out.to c9);have dj:=xC.out _ uK.out.v;clear jV dr)
    |(at_lookup;refine xg _ rfl _ _ 94 rfl underlying9 underlying94 (zeroValue86 _) (w.heap.size+1) L Fm rfl uK.out.m f.name rfl Gq ?_;rw[Z3 dq]))
   go_roundw
   case rel=>exact⟨k+1,L,Fm,by go_num,ax,⟨uK.out.skip (Hf.out ▸ dq)⟩⟩
   case measure=>simp[intOf];omega
  ·go_wp2_with (first
    |(show wpList _ _ _ (⟨some 16,_,_,_,_,_⟩::_) _ _;refine pC rfl 44 (.tmp 15) rfl bb (off+k * 18) rfl Cf HM.out te.out ?_)
    |(show wpList _ _ _ (⟨none,.store _ _ _,_,_,_,_⟩::_) _ _;refine wpList_store_row rfl 44 (.tmp 5) (.tmp 16) rfl wr.heap.size Cf rfl rfl 44 _ (heap_alloc_new _ _) nC cj.symm tH ?_;generalize jV:(World.setRow (World.alloc wr _) wr.heap.size Cf)=w2;have c9:Below wr.heap.size wr w2:=jV ▸ uT _ _ _;have dr:w2.heap[wr.heap.size]? =some (.cells Cf 44 (0,0)):=jV ▸ setRow_heap _ _ _ _ _ _ (heap_alloc_new _ _);have dL:w2.heap.size=wr.heap.size+1:=jV ▸ (by simp[World.setRow]);have im:w2.cell? ⟨wr.heap.size,0,none⟩=some (.string f.name):=(lh dr).trans HN.out;have uK:=Hd.mk (HS.out.to c9);have dj:=xC.out _ uK.out.v;have JU:=Hd.mk dr;clear jV dr)
    |(at_lookup;refine xg _ rfl _ _ 94 rfl underlying9 underlying94 (zeroValue86 _) (w.heap.size+1) L Fm rfl uK.out.m f.name rfl Gq ?_;rw[Z6 dq])
    |(show wpList _ _ _ (⟨some 24,_,_,_,_,_⟩::_) _ _;refine pC rfl 42 (.tmp 23) rfl wr.heap.size 5 rfl ((Cf.toList.drop 5).take 12).toArray (Kr _ JU.out cj) A9.out ?_)
    |(go_at_call 52;refine(aar HF.out (Hf.out ▸ L9 ax) JR.out c9 dL JU.out HR.out).mono ?_;rintro e w3 ⟨⟨v3',rfl⟩,y2,lE,jS⟩;have Ci:w3.cell? ⟨wr.heap.size,0,none⟩=some (.string f.name):=(lh jS).trans HN.out;have Ei:=Hd.mk (HS.out.to lE);have FY:=xC.out _ Ei.out.v;have H3:=Hd.mk (And.intro y2 lE);clear y2 lE jS)
    |(at_mapUpdate;refine aM8 _ rfl _ _ _ 94 rfl underlying9 underlying94 (w.heap.size+1) L Fm rfl Ei.out.m (by have:=HS.out.len;omega) f.name rfl Gq (wr.heap.size+1) rfl ?_;intro w4 ade yE))
   have HE:gI w c.features (k+1) (ins L f.name) (fun x=>if x=f.name then wr.heap.size+1 else Fm x) w4:=by
    obtain⟨n1,n2⟩:=HS.out.new
    have hf:=Hf.out
    subst hf
    exact Ei.out.put ax dq H3.out.1 (by omega) (fun n hn=>by have:=n2 n hn;omega) ade yE
   go_roundw
   case rel=>exact⟨k+1,_,_,by go_num,ax,⟨HE⟩⟩
   case measure=>simp[intOf];omega
 ·obtain rfl:k=c.features.length:=by omega
  go_wp2_with (at_range;refine Jp _ rfl _ 94 rfl underlying9 86 underlying94 mapElem (w.heap.size+1) L (fun s=> .lit (.int .i64 (Fm s))) rfl HS.out.m ?_;intro w4r xV oL nh y7)
  have H0:=Hd.mk (pk.start HS.out oL nh)
  clear oL nh y7 hcell
  obtain⟨wo,rfl⟩:∃ wo:World,wo=wr:=⟨wr,rfl⟩
  go_frame
  go_loopw [8] (fun _ wr=>∃ left aY,Hd (pk w c.features L Fm wo.heap.size left aY wr)) (fun _ wr=>wr.rangeLeft (w.heap.size+1) wo.heap.size)
  case atStart=>exact⟨_,xV,H0⟩
  clear H0
  obtain⟨left,aY,HR⟩:=hrel
  have hcell:=xC.out _ HR.out.v
  go_wp2_with (first
   |(at_next;refine Jo _ rfl (.tmp 34) rfl underlying9 mapElem (fun s=> .map (some (Fm s))) (w.heap.size+1) wo.heap.size L (fun s=> .lit (.int .i64 (Fm s))) (fun s _ v ps h=>OQ h) left aY rfl HR.out.q ?_ ?_))
  ·intro hd
   have HD:=Hd.mk hd
   clear hd
   go_wp2
   go_ret
   exact⟨L,Fm,rfl,HR.out.done HD.out,HR.out.k⟩
  ·intro s1 w' eD kO Cb lI ax eM nC vM
   obtain⟨f,hf,h1,h2,h3,h4,h5⟩:=HR.out.step kO Cb lI eM
   have HC:=Hd.mk (aLR h1 h2 h3 h4)
   have H5:=Hd.mk h5
   have HL:Hd (w'.rangeLeft (w.heap.size+1) wo.heap.size=eD∧wr.rangeLeft (w.heap.size+1) wo.heap.size=aY):=⟨lI.left_eq,HR.out.q.left_eq⟩
   clear hf h1 h2 h4 h5 lI eM hcell
   go_wp2_with (first
    |(go_at_call 85;refine HC.out.mono ?_;rintro e w2 ⟨rfl,dL,il⟩;have HE:=Hd.mk (H5.out w2 dL il);clear dL il))
   go_roundw
   case rel=>exact⟨_,eD,HE⟩
   case measure=>rw[HE.out.q.left_eq,HL.out.2];exact ax
theorem aM7{P:Program}{ops:Array Oper}{rest:List Oper}{o:Oper}{a:Act}{w:World}{Q:Exit→Act→World→Prop}(hw:Region.wanted o (yielded ops a.tmps)=true)(h:wpList P ops Q (⟨o.dst,o.op,o.type,o.pos,o.after,none⟩::rest) a w):wpList P ops Q (o::rest) a w:=by
 unfold wpList at h ⊢
 rw[Z3 hw]
 rw[Z3 (by simp[Region.wanted])]at h
 exact h
def px(w:World)(lo:Nat)(v:Value)(L:List ae):Prop:=∃ a cap,v= .slice a L.length cap∧L.length≤maxLen∧∀ i (hi:i<L.length),∃ g off,a=some ⟨g,off,none⟩∧g<lo∧w.cell? ⟨g,off+i,none⟩=some (.string L[i])
def Rk(lo:Nat)(w w':World):Prop:=∀ (k:Nat) (cs:Array Value) (t:TypeId) (f:Nat×Nat),k<lo→w.heap[k]? =some (Obj.cells cs t f)→w'.heap[k]? =w.heap[k]?
theorem px.Pg{w:World}{e:TypeId}{l0 lo:Nat}{v:Value}{L:List ae}(h:names w e l0 v L)(tE:w.heap.size≤lo):px w lo v L:=by
 have hl:=h.len
 obtain⟨a,cap,rfl,h1,h2,h3⟩:=h
 refine⟨a,cap,rfl,hl,fun i hi=> ?_⟩
 obtain⟨g,off,cur,g1,g2,g3,g4,g5⟩:=h3 (by omega)
 have:=(Z0.1 g3).1
 exact⟨g,off,g1,by omega,by rw[lh g3];exact g5 i hi⟩
theorem px.to{w w':World}{lo:Nat}{v:Value}{L:List ae}(h:px w lo v L)(hk:Rk lo w w'):px w' lo v L:=by
 obtain⟨a,cap,rfl,hl,h3⟩:=h
 refine⟨a,cap,rfl,hl,fun i hi=> ?_⟩
 obtain⟨g,off,g1,g2,g3⟩:=h3 i hi
 refine⟨g,off,g1,g2,?_⟩
 have hc:∃ cs t f,w.heap[g]? =some (Obj.cells cs t f):=by
  cases hh:w.heap[g]? with
  |none=>simp[World.cell?,hh]at g3
  |some o=>
   cases o with
   |cells cs t f=>exact⟨cs,t,f,rfl⟩
   |_=>simp[World.cell?,hh]at g3
 obtain⟨cs,t,f,hc⟩:=hc
 exact(World.cell?_of_block (a:=⟨g,off+i,none⟩) (hk g cs t f g2 hc)).trans g3
theorem Rk.below{lo:Nat}{w w':World}(h:Below w.heap.size w w'):Rk lo w w':=fun k cs t f _ hc=>h.block k (Z0.1 hc).1
theorem Rk.bY{lo b:Nat}{w w':World}(h:aZ w w' [b])(hb:∀ cs t f,w.heap[b]?≠some (Obj.cells cs t f)):Rk lo w w':=fun k cs t f _ hc=>h.block k (Z0.1 hc).1 (by
 rw[Zq];rintro rfl;exact hb _ _ _ hc)
theorem Rk.pE{lo:Nat}{w w':World}(h:qI lo w w'):Rk lo w w':=fun k cs t f hk hc=>h.below k hk (Z0.1 hc).1
theorem wy{w:World}{b:Nat}(h:∃ es c,w.heap[b]? =some (.map es c)):∀ cs t f,w.heap[b]?≠some (Obj.cells cs t f):=fun cs t f e=>by
 obtain⟨es,c,h⟩:=h;rw[h]at e;cases e
theorem Hw{w:World}{b r:Nat}(h:∃ es c,w.heap[b]? =some (.map es c))(hr:∃ x y z u,w.heap[r]? =some (.mapIter x y z u)):b≠r:=fun e=>by
 subst e
 obtain⟨es,c,h⟩:=h
 obtain⟨x,y,z,u,hr⟩:=hr
 rw[h]at hr;cases hr
structure gK(w:World)(fs:List aj)(bA bd lo:Nat)(vN:Value)(L:List ae)(F:ae→Nat)(out:List ae)(wr:World)(vl:Value):Prop where
 v:names wr 9 lo vl out
 d:bN wr bd out
 a:gJ wr bA w.heap.size fs L F
 o:je (deps fs) (aQ fs) out
 k:Below w.heap.size w wr
 r:px wr lo vN (aQ fs)
 l1:w.heap.size≤bd
 l2:bd<lo
 l3:lo≤wr.heap.size
 n1:bA≠bd
 n2:∀ n∈L,F n≠bd
theorem gJ.names{w:World}{b lo:Nat}{fs:List aj}{L:List ae}{F:ae→Nat}(h:gJ w b lo fs L F){S:List ae}(h1:bg S)(h2:∀ s,s∈S↔s∈L):S=aQ fs:=mH h1 (zR fs) fun x=>by rw[h2,h.l,oX]
theorem gJ.len{w:World}{b lo:Nat}{fs:List aj}{L:List ae}{F:ae→Nat}(h:gJ w b lo fs L F):L.length≤fs.length:=ZJ (gn h.m.1 fun n hn=>oX.2 ((h.l n).1 hn)) (wu fs)
theorem gK.start{w w1 w2 w4:World}{fs:List aj}{bA:Nat}{o:Obj}{vN:Value}{L:List ae}{F:ae→Nat}{e:TypeId}{l0:Nat}(Cy:w1=w.alloc o)(ha:gJ w2 bA (w.heap.size+1) fs L F)(hb:Below (w.heap.size+1) w1 w2)(hn:names w4 e l0 vN (aQ fs))(h4:Below w2.heap.size w2 w4):
  gK w fs bA w4.heap.size (w4.heap.size+1) vN L F [] (w4.alloc (.map #[] 0)) (.slice none 0 0):=by
 subst Cy
 have e1:(w.alloc o).heap.size=w.heap.size+1:=by simp
 have l1:=hb.size
 rw[e1]at l1
 have l2:=h4.size
 have fT:Below w.heap.size w w2:=sI hb
 have hk:aZ w4 (w4.alloc (.map #[] 0)) []:=(aZ.refl w4 []).alloc _
 have vD:=ha.below h4
 have lt:=vD.m.lt
 refine⟨⟨none,0,rfl,by simp,by simp,fun h=>absurd h (by omega)⟩,ui w4 _ _ _,⟨(vD.bY hk (by simp) (by simp)).m,vD.l,(vD.bY hk (by simp) (by simp)).s,fun n hn=>by have:=vD.g n hn;omega⟩,je.start _ _,(fT.trans (fR h4 (by omega))).trans (hk.below (by omega) (by simp)),?_,by omega,by omega,by simp,by omega,fun n hn=> ?_⟩
 ·exact(px.Pg (hn.alloc _) (by simp))
 ·obtain⟨D,hD,_⟩:=vD.s n hn
  have:=hD.lt;omega
theorem gK.below{w:World}{fs:List aj}{bA bd lo:Nat}{vN:Value}{L:List ae}{F:ae→Nat}{out:List ae}{wr w':World}{vl:Value}(h:gK w fs bA bd lo vN L F out wr vl)(hb:Below wr.heap.size wr w'):gK w fs bA bd lo vN L F out w' vl:=
 ⟨wx h.v hb,qo h.d hb,h.a.below hb,h.o,h.k.trans (fR hb h.k.size),h.r.to (.below hb),h.l1,h.l2,ZJ h.l3 hb.size,h.n1,h.n2⟩
theorem gK.iter{w:World}{fs:List aj}{bA bd lo:Nat}{vN:Value}{L:List ae}{F:ae→Nat}{out:List ae}{wr w':World}{vl:Value}{r:Nat}(h:gK w fs bA bd lo vN L F out wr vl)(hit:∃ x y z u,wr.heap[r]? =some (.mapIter x y z u))(hr:lo≤r)(hg:wr.grownBy w' (some r)):gK w fs bA bd lo vN L F out w' vl:=by
 have hk:=aZ.j7 hg
 have hc:∀ cs t f,wr.heap[r]?≠some (Obj.cells cs t f):=fun cs t f e=>by obtain⟨x,y,z,u,hit⟩:=hit;rw[hit]at e;cases e
 have l1:=h.l1
 have l2:=h.l2
 have l3:=h.l3
 refine⟨h.v.grown hg hc,fE h.d hk (by simpa using Hw h.d.isMap hit),h.a.bY hk (by simpa using Hw h.a.m.isMap hit) (fun n hn=> ?_),h.o,h.k.trans (hk.below h.k.size (by simp;omega)),h.r.to (.bY hk hc),h.l1,h.l2,ZJ h.l3 hg.size,h.n1,h.n2⟩
 obtain⟨D,hD,_⟩:=h.a.s n hn
 simpa using Hw hD.isMap hit
theorem gK.mid{w:World}{fs:List aj}{bA bd lo:Nat}{vN:Value}{L:List ae}{F:ae→Nat}{out:List ae}{wr w2:World}{vl:Value}(h:gK w fs bA bd lo vN L F out wr vl)(hg:wr.grownBy w2 (some bd))(o:Obj):names (w2.alloc o) 9 lo vl out∧lo≤(w2.alloc o).heap.size:=by
 have:=h.l3
 have:=hg.size
 exact⟨(h.v.grown hg (wy h.d.isMap)).alloc o,by simp;omega⟩
theorem gK.put{w:World}{fs:List aj}{bA bd lo:Nat}{vN:Value}{L:List ae}{F:ae→Nat}{out:List ae}{wr w2 w3:World}{vl kW:Value}{s:ae}(h:gK w fs bA bd lo vN L F out wr vl)(hn:j8 (deps fs) (aQ fs) out=some s)(hs:bN w2 bd (ins out s))(hg:wr.grownBy w2 (some bd))(o:Obj)(hv:names w3 9 lo kW (out++[s]))(hc:qI lo (w2.alloc o) w3):
  gK w fs bA bd lo vN L F (out++[s]) w3 kW:=by
 have hk:=aZ.j7 hg
 have l1:=h.l1
 have l2:=h.l2
 have l3:=h.l3
 have lw:=h.k.size
 have sz:=hg.size
 have nu:s∉out:=(Im.1 (X3 hn)).1
 have e1:ins out s=out++[s]:=by unfold ins;rw[Z6 nu]
 have ha:gJ w2 bA w.heap.size fs L F:=h.a.bY hk (by simpa using h.n1) (fun n hn=>by simpa using h.n2 n hn)
 have oz:gJ (w2.alloc o) bA w.heap.size fs L F:=ha.bY ((aZ.refl w2 []).alloc o) (by simp) (by simp)
 have b2:Below w.heap.size wr w2:=hk.below lw (by simp;omega)
 have b3:Below w.heap.size w2 (w2.alloc o):=⟨rfl,rfl,rfl,by simp,fun k hk=>heap_alloc_old w2 o (by omega)⟩
 have b4:Below w.heap.size (w2.alloc o) w3:=⟨hc.os,hc.tape,hc.output,hc.size,fun k hk=>hc.below k (by omega) (by simp;omega)⟩
 refine⟨hv,?_,⟨oz.m.pE hc,oz.l,fun n hn=> ?_,oz.g⟩,(h.o.step hn).1,((h.k.trans b2).trans b3).trans b4,?_,h.l1,h.l2,?_,h.n1,h.n2⟩
 ·rw[← e1];exact(dh.alloc hs o).pE hc
 ·obtain⟨D,h1,h2⟩:=oz.s n hn
  exact⟨D,h1.pE hc,h2⟩
 ·exact((h.r.to (.bY hk (wy h.d.isMap))).to (.below (((aZ.refl w2 []).alloc o).below (ZR _) (by simp)))).to (.pE hc)
 ·have:=hc.size;simp at this;omega
structure pw(w:World)(fs:List aj)(bA bd lo:Nat)(vN:Value)(L:List ae)(F:ae→Nat)(out:List ae)(s:ae)(D:List ae)(r:Nat)(left:ae→Prop)(aY:Nat)(b:Bool)(wr:World)(vl:Value):Prop where
 o:gK w fs bA bd lo vN L F out wr vl
 q:eQ wr prog 9 (plainElem prog 4) (F s) r D (fun _=>tt) left aY
 b:b=true↔s∉out∧∀ m∈D,¬left m→m∈out
 r:lo≤r
theorem pw.start{w:World}{fs:List aj}{bA bd lo:Nat}{vN:Value}{L:List ae}{F:ae→Nat}{out:List ae}{s:ae}{D:List ae}{aY:Nat}{wr w':World}{vl:Value}(h:gK w fs bA bd lo vN L F out wr vl)(hr:eQ w' prog 9 (plainElem prog 4) (F s) wr.heap.size D (fun _=>tt) (·∈D) aY)(hg:wr.grownBy w' none):
  pw w fs bA bd lo vN L F out s D wr.heap.size (·∈D) aY (!decide (s∈out)) w' vl:=
 ⟨h.below ((aZ.C4 hg []).below (ZR _) (by simp)),hr,by
  rw[YP,decide_eq_false_iff_not]
  exact⟨fun h1=>⟨h1,fun m hm hn=>absurd hm hn⟩,fun h1=>h1.1⟩,h.l3⟩
theorem pw.next{w:World}{fs:List aj}{bA bd lo:Nat}{vN:Value}{L:List ae}{F:ae→Nat}{out:List ae}{s:ae}{D:List ae}{r:Nat}{left:ae→Prop}{aY eD:Nat}{b:Bool}{wr w':World}{vl:Value}{m:ae}(h:pw w fs bA bd lo vN L F out s D r left aY b wr vl)(hm:m∈D)
  (hr:eQ w' prog 9 (plainElem prog 4) (F s) r D (fun _=>tt) (fun x=>left x∧x≠m) eD) (hg:wr.grownBy w' (some r)):pw w fs bA bd lo vN L F out s D r (fun x=>left x∧x≠m) eD (b && decide (m∈out)) w' vl∨¬left m:=by
 by_cases hl:left m
 ·refine .inl ⟨h.o.iter h.q.iter h.r hg,hr,?_,h.r⟩
  rw[ZP,h.b,Zn]
  constructor
  ·rintro⟨⟨h1,h2⟩,h3⟩
   refine⟨h1,fun x hx hn=> ?_⟩
   by_cases e:x=m
   ·rw[e];exact h3
   ·exact h2 x hx fun h'=>hn ⟨h',e⟩
  ·rintro⟨h1,h2⟩
   exact⟨⟨h1,fun x hx hn=>h2 x hx fun h'=>hn h'.1⟩,h2 m hm fun h'=>h'.2 rfl⟩
 ·exact .inr hl
theorem pw.done{w:World}{fs:List aj}{bA bd lo:Nat}{vN:Value}{L:List ae}{F:ae→Nat}{out:List ae}{s:ae}{D:List ae}{r:Nat}{left:ae→Prop}{aY:Nat}{b:Bool}{wr:World}{vl:Value}(h:pw w fs bA bd lo vN L F out s D r left aY b wr vl)(hd:∀ s:ae,s.size≤maxLen→¬left s)(hD:∀ m,m∈D↔m∈deps fs s):b=ready (deps fs) out s:=by
 rw[Yy,h.b,Im]
 constructor
 ·rintro⟨h1,h2⟩;exact⟨h1,fun m hm=>h2 m ((hD m).2 hm) (hd m (h.q.2.1 m ((hD m).2 hm)))⟩
 ·rintro⟨h1,h2⟩;exact⟨h1,fun m hm _=>h2 m ((hD m).1 hm)⟩
theorem aha{g:ae→List ae}{N out:List ae}{k:Nat}(hk:k<N.length)(hp:∀ j (hj:j<N.length),j<k→ready g out N[j]=false)(h:ready g out N[k]=true):j8 g N out=some N[k]:=by
 unfold j8
 rw[YM]
 exact⟨h,k,hk,rfl,fun j hj=>by simpa using hp j (Nat.lt_trans hj hk) hj⟩
theorem ahb{g:ae→List ae}{N out:List ae}(hp:∀ j (hj:j<N.length),ready g out N[j]=false):j8 g N out=none:=by
 unfold j8
 rw[XG]
 intro x hx
 obtain⟨j,hj,rfl⟩:=Zj hx
 simpa using hp j hj
end Go.Proofs.YtomhopcnkicknaaGreatDoor
