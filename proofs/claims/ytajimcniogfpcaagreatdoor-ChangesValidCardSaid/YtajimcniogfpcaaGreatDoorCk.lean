/- catalog.dependencies: the states of its walk. -/
import Derived.Test.YtajimcniogfpcaaGreatDoorCi
import Derived.Test.YtajimcniogfpcaaGreatDoorSet
set_option linter.unusedVariables false
set_option linter.unusedSimpArgs false
namespace Go.Proofs.YtajimcniogfpcaaGreatDoor
open _root_.Go.Proofs.Tryz
open Go.RowKit Go.Proofs Go.Tb Go.Maps
open Go.Sx (AV Mem RL R M0 Glob)
theorem PW{α:Type}[Inhabited α]{l:List α}{i:Nat}(h:i<l.length):l.getD i default∈l:=by
 rw[show l.getD i default=l[i] by simp[ZU,h]];exact Zc _
structure q6(fs:List aj):Prop where
 f:∀ f∈fs,f.body.aW.length≤274877906944∧f.body.bU.length≤274877906944∧(∀ s∈f.body.aW,s.size≤maxLen)∧∀ s∈f.body.bU,s.size≤maxLen
 n:∀ f∈fs,f.name.size≤maxLen
 l:fs.length≤274877906944
theorem ahC{w w':World}{b:Nat}{L:List ae}{f:ae→Nat}(h:ri w b L f)(hb:Below w.heap.size w w'):ri w' b L f:=S3 h (bB.FI hb []) (by simp)
theorem aj.parts{M:Mem}{f:aj}{C:Array Value}(h:RL M f.cells C.toList):C.size=18∧C.all (·.oneCell')=true∧C[0]? =some (.string f.name):=by
 refine⟨?_,by rw[← Yl];exact h.oL rfl,?_⟩
 ·have h1:=h.1
  have h2:f.cells.length=18:=rfl
  have h3:C.toList.length=C.size:=Zv
  omega
 ·obtain⟨v,h1,h2⟩:=h.get (i:=0) (x:=sv f.name) rfl
  rw[h2.ay]at h1
  simpa using h1
theorem az.aW{M:Mem}{c:az}{C:Array Value}(h:RL M c.cells C.toList):∃ v0 v2 v3 a cap,C= #[v0,.slice a c.features.length cap,v2,v3]∧c.features.length≤maxLen∧
  ∀ i (hi:i<c.features.length),∃ bb off,a=some ⟨bb,off,none⟩∧∃ F:Array Value,RL M (c.features.getD i default).cells F.toList∧F.toList.length=18∧∀ j (hj:j<F.toList.length),M bb (off+i * 18+j)=some F.toList[j]:=by
 obtain⟨v0,l0,e0,h0,h⟩:=h.bg
 obtain⟨v1,l1,rfl,h1,h⟩:=h.bg
 obtain⟨v2,l2,rfl,h2,h⟩:=h.bg
 obtain⟨v3,l3,rfl,h3,h⟩:=h.bg
 obtain rfl:=h.qU
 have hlen:=UY h1
 rw[Z4]at hlen
 obtain⟨a,cap,rfl,hA⟩:=wC h1
 rw[Z4]at e0
 refine⟨v0,v2,v3,a,cap,?_,hlen,fun i hi=> ?_⟩
 ·rw[← Array.toList_inj,e0]
 ·obtain⟨bb,off,e,bP,g1,g2,g3⟩:=hA i (by rw[Z4];exact hi)
  refine⟨bb,off,e,bP.toArray,?_,by simpa using g2,fun j hj=>by simpa using g3 j (by simpa using hj)⟩
  rw[Zj]at g1
  rw[show c.features.getD i default=c.features[i] by simp[ZU,hi]]
  simpa using g1
structure iX(w:World)(fs:List aj)(i:Nat)(L:List ae)(F:ae→Nat)(wr:World):Prop where
 m:ri wr (w.heap.size+1) L F
 l:∀ n,n∈L↔∃ j,j<i∧(fs.getD j default).name=n
 s:∀ n∈L,∃ f,findF fs n=some f∧cy wr (F n) (eJ [] f.body.aW)
 inj:∀ a∈L,∀ b∈L,F a=F b→a=b
 g:∀ n∈L,w.heap.size+2<F n
 k:Below w.heap.size w wr
 v:wr.heap[w.heap.size+2]? =some (.cells #[.map (some (w.heap.size+1))] 90 (0,0))
theorem iX.start(w:World)(o:Obj)(fs:List aj)(F:ae→Nat):iX w fs 0 [] F (((w.alloc o).alloc (.map #[] 0)).alloc (.cells #[.map (some (w.heap.size+1))] 90)):=by
 have h1:=Vk (w.alloc o) prog 9 mapElem (fun s=> .lit (.int .i64 (F s)))
 rw[show(w.alloc o).heap.size=w.heap.size+1 by simp]at h1
 have h2:=heap_alloc_new ((w.alloc o).alloc (.map #[] 0)) (.cells #[.map (some (w.heap.size+1))] 90)
 rw[show((w.alloc o).alloc (.map #[] 0)).heap.size=w.heap.size+2 by simp]at h2
 exact⟨h1.alloc _,fun n=>⟨fun h=>(by cases h),fun⟨j,hj,_⟩=>absurd hj (by omega)⟩,fun n h=>(by cases h),fun a h=>(by cases h),fun a h=>(by cases h),((((bB.refl w []).alloc _).alloc _).alloc _).below (ZM _) (by simp),h2⟩
theorem iX.to{w:World}{fs:List aj}{i:Nat}{L:List ae}{F:ae→Nat}{wr w':World}(h:iX w fs i L F wr)(hb:Below wr.heap.size wr w'):iX w fs i L F w':=
 ⟨ahC h.m hb,h.l,fun n hn=>by obtain⟨f,h1,h2⟩:=h.s n hn;exact⟨f,h1,C9 h2 hb⟩,h.inj,h.g,h.k.trans (tU hb h.k.size),by rw[hb.block _ (ZX.1 h.v).1];exact h.v⟩
theorem iX.skip{w:World}{fs:List aj}{i:Nat}{L:List ae}{F:ae→Nat}{wr:World}(h:iX w fs i L F wr)(hm:(fs.getD i default).name∈L):iX w fs (i+1) L F wr:=
 ⟨h.m,fun n=>by
  rw[h.l]
  constructor
  ·rintro⟨j,hj,e⟩;exact⟨j,by omega,e⟩
  ·rintro⟨j,hj,e⟩
   rcases X8 (X4 hj)with h1|rfl
   ·exact⟨j,h1,e⟩
   ·rw[e]at hm;exact(h.l n).1 hm,h.s,h.inj,h.g,h.k,h.v⟩
theorem adW{fs:List aj}{n:ae}{i:Nat}(hi:i<fs.length)(hn:(fs.getD i default).name=n)(hp:∀ j,j<i→(fs.getD j default).name≠n):findF fs n=some (fs.getD i default):=by
 unfold findF
 rw[show fs.getD i default=fs[i] by simp[ZU,hi]]at hn ⊢
 rw[Yo]
 refine⟨by simpa using hn,i,hi,rfl,fun j hj=> ?_⟩
 have:=hp j hj
 rw[show fs.getD j default=fs[j] by simp[ZU,Nat.lt_trans hj hi]]at this
 simpa using this
theorem iX.put{w:World}{fs:List aj}{i:Nat}{L:List ae}{F:ae→Nat}{wr w':World}{b:Nat}(h:iX w fs i L F wr)(hi:i<fs.length)(hm:(fs.getD i default).name∉L)(hs:cy wr b (eJ [] (fs.getD i default).body.aW))(hb:w.heap.size+2<b)(JT:∀ n∈L,F n≠b)
  (hw:ri w' (w.heap.size+1) (ins L (fs.getD i default).name) (fun x=>if x=(fs.getD i default).name then b else F x)) (hg:wr.grownBy w' (some (w.heap.size+1))):iX w fs (i+1) (ins L (fs.getD i default).name) (fun x=>if x=(fs.getD i default).name then b else F x) w':=by
 have hk:=bB.lq hg
 refine⟨hw,fun n=> ?_,fun n hn=> ?_,fun x hx y hy e=> ?_,fun n hn=> ?_,h.k.trans (hk.below h.k.size (by simp)),?_⟩
 ·rw[qA,h.l]
  constructor
  ·rintro(rfl|⟨j,hj,e⟩)
   ·exact⟨i,by omega,rfl⟩
   ·exact⟨j,by omega,e⟩
  ·rintro⟨j,hj,e⟩
   rcases X8 (X4 hj)with h1|rfl
   ·exact .inr ⟨j,h1,e⟩
   ·exact .inl e.symm
 ·by_cases e:n=(fs.getD i default).name
  ·refine⟨fs.getD i default,adW hi e.symm (fun j hj e'=>hm ((h.l _).2 ⟨j,hj,e'.trans e⟩)),?_⟩
   rw[ZW e];exact iM hs hk (by simp;omega)
  ·have jX:n∈L:=by
    rcases qA.1 hn with h1|h1
    ·exact absurd h1 e
    ·exact h1
   obtain⟨f,h1,h2⟩:=h.s n jX
   have:=h.g n jX
   refine⟨f,h1,?_⟩
   rw[Z5 e];exact iM h2 hk (by simp;omega)
 ·have qx:=qA.1 hx
  have Rj:=qA.1 hy
  by_cases e1:x=(fs.getD i default).name<;>by_cases e2:y=(fs.getD i default).name
  ·rw[e1,e2]
  ·rw[ZW e1,Z5 e2]at e
   exact absurd e.symm (JT y (Rj.resolve_left e2))
  ·rw[Z5 e1,ZW e2]at e
   exact absurd e (JT x (qx.resolve_left e1))
  ·rw[Z5 e1,Z5 e2]at e
   exact h.inj x (qx.resolve_left e1) y (Rj.resolve_left e2) e
 ·show _<if n=_ then b else F n
  split
  ·exact hb
  ·rename_i e
   exact h.g n ((qA.1 hn).resolve_left e)
 ·rw[hk.block _ (ZX.1 h.v).1 (by simp)];exact h.v
theorem iX.len{w:World}{fs:List aj}{i:Nat}{L:List ae}{F:ae→Nat}{wr:World}(h:iX w fs i L F wr):L.length≤i:=by
 have h1:=ic (a:=L) (b:=(List.range i).map fun j=>(fs.getD j default).name) h.m.1 fun n hn=>by
  obtain⟨j,hj,e⟩:=(h.l n).1 hn
  exact Y9.2 ⟨j,YT.2 hj,e⟩
 simpa using h1
theorem iX.new{w:World}{fs:List aj}{i:Nat}{L:List ae}{F:ae→Nat}{wr:World}(h:iX w fs i L F wr):w.heap.size+2<wr.heap.size∧∀ n∈L,F n<wr.heap.size:=
 ⟨(ZX.1 h.v).1,fun n hn=>by obtain⟨f,_,h2⟩:=h.s n hn;exact h2.lt⟩
theorem acX{f:aj}{fs:List aj}(hF:q6 fs)(hf:f∈fs){wr w2:World}{M:Mem}{Cf:Array Value}(hI:Sx.Inv prog M ⟨wr,M⟩ [] wr)(fW:Below wr.heap.size wr w2)(fj:w2.heap.size=wr.heap.size+1)(eo:w2.heap[wr.heap.size]? =some (.cells Cf 40 (0,0)))(uy:RL M f.cells Cf.toList):
  Calls prog 73 #[.agg ((Cf.toList.drop 5).take 12).toArray,.map (some (wr.heap.size+1)),.map (some (wr.heap.size+2))] ((w2.alloc (.map #[] 0)).alloc (.map #[] 0)) fun e w3=>(∃ v,e= .returned v)∧cy w3 (wr.heap.size+1) (eJ [] f.body.aW)∧
   Below wr.heap.size wr w3∧w3.heap[wr.heap.size]? =some (.cells Cf 40 (0,0)):=by
 have dK:Below wr.heap.size wr ((w2.alloc (.map #[] 0)).alloc (.map #[] 0)):=(fW.alloc (by omega) _).alloc (by simp;omega) _
 have h1:cy ((w2.alloc (.map #[] 0)).alloc (.map #[] 0)) (wr.heap.size+1) []:=by
  have:=Da w2 prog 9 4
  rw[fj]at this;exact this.alloc _
 have h2:cy ((w2.alloc (.map #[] 0)).alloc (.map #[] 0)) (wr.heap.size+2) []:=by
  have:=Da (w2.alloc (.map #[] 0)) prog 9 4
  rw[show(w2.alloc (.map #[] 0)).heap.size=wr.heap.size+2 by simp;omega]at this;exact this
 obtain⟨l1,l2,l3,l4⟩:=hF.f f hf
 have aY:((w2.alloc (.map #[] 0)).alloc (.map #[] 0)).heap.size=wr.heap.size+3:=by simp;omega
 refine(IX f.body.size f.body (ZM _) M _ (Bj hI dK) ((Cf.toList.drop 5).take 12).toArray (by simpa using Ob uy) (wr.heap.size+1) (wr.heap.size+2) [] [] h1 h2 (by omega) (by simp;omega) (by simp;omega) l3 l4).mono fun e w3 ⟨g1,g2,g3,g4⟩=>⟨g1,g2,?_,?_⟩
 ·exact dK.trans (g4.below (by omega) (by simp))
 ·rw[g4.block _ (by omega) (by simp),heap_alloc_old _ _ (by simp;omega),heap_alloc_old _ _ (by omega)];exact eo
structure q7(w:World)(fs:List aj)(L:List ae)(F:ae→Nat)(r:Nat)(left:ae→Prop)(bu:Nat)(wr:World):Prop where
 q:fM wr prog 9 mapElem (w.heap.size+1) r L (fun s=> .lit (.int .i64 (F s))) left bu
 l:∀ n,n∈L↔j2 fs n=true
 s:∀ n∈L,∃ f,findF fs n=some f∧(left n→cy wr (F n) (eJ [] f.body.aW))∧(¬left n→cy wr (F n) ((eJ [] f.body.aW).filter fun s=>decide (s∈L)))
 inj:∀ a∈L,∀ b∈L,F a=F b→a=b
 g:∀ n∈L,w.heap.size+2<F n
 k:Below w.heap.size w wr
 v:wr.heap[w.heap.size+2]? =some (.cells #[.map (some (w.heap.size+1))] 90 (0,0))
 rr:w.heap.size+2<r
theorem q7.start{w:World}{fs:List aj}{L:List ae}{F:ae→Nat}{wr w':World}{bu:Nat}(h:iX w fs fs.length L F wr)(hr:fM w' prog 9 mapElem (w.heap.size+1) wr.heap.size L (fun s=> .lit (.int .i64 (F s))) (·∈L) bu)(hg:wr.grownBy w' none):q7 w fs L F wr.heap.size (·∈L) bu w':=by
 have hk:=bB.FJ hg []
 have lt:=(ZX.1 h.v).1
 refine⟨hr,fun n=> ?_,fun n hn=> ?_,h.inj,h.g,h.k.trans (hk.below h.k.size (by simp)),by rw[hk.block _ lt (by simp)];exact h.v,lt⟩
 ·rw[h.l,CG]
  constructor
  ·rintro⟨j,hj,e⟩
   refine⟨fs.getD j default,?_,e⟩
   rw[show fs.getD j default=fs[j] by simp[ZU,hj]];exact Zc _
  ·rintro⟨f,hf,e⟩
   obtain⟨j,hj,rfl⟩:=Zf hf
   exact⟨j,hj,by rw[show fs.getD j default=fs[j] by simp[ZU,hj]];exact e⟩
 ·obtain⟨f,h1,h2⟩:=h.s n hn
  exact⟨f,h1,fun _=>iM h2 hk (by simp),fun hl=>absurd hn hl⟩
theorem q7.step{w:World}{fs:List aj}{L:List ae}{F:ae→Nat}{r:Nat}{left:ae→Prop}{bu fS:Nat}{wr w':World}{s:ae}(h:q7 w fs L F r left bu wr)(ph:s∈L)(hl:left s)(hr:fM w' prog 9 mapElem (w.heap.size+1) r L (fun s=> .lit (.int .i64 (F s))) (fun x=>left x∧x≠s) fS)(hg:wr.grownBy w' (some r)):
  ∃ f,findF fs s=some f∧cy w' (F s) (eJ [] f.body.aW)∧ri w' (w.heap.size+1) L F∧w'.cell? ⟨w.heap.size+2,0,none⟩=some (.map (some (w.heap.size+1)))∧F s≠w.heap.size+1∧
   ∀ w2,cy w2 (F s) ((eJ [] f.body.aW).filter fun s=>decide (s∈L))→w'.grownBy w2 (some (F s))→q7 w fs L F r (fun x=>left x∧x≠s) fS w2:=by
 have hk:=bB.lq hg
 have rr:=h.rr
 obtain⟨f,h1,h2,_⟩:=h.s s ph
 have gs:=h.g s ph
 obtain⟨x,y,z,u,hit⟩:=h.q.iter
 have ne:∀ n∈L,F n≠r:=fun n hn e=>by
  obtain⟨f',_,h3,h4⟩:=h.s n hn
  have:∃ D,cy wr (F n) D:=by
   by_cases hl:left n
   ·exact⟨_,h3 hl⟩
   ·exact⟨_,h4 hl⟩
  obtain⟨D,hD⟩:=this
  obtain⟨es,c,hm⟩:=hD.isMap
  rw[e,hit]at hm;cases hm
 have hv:w'.heap[w.heap.size+2]? =some (.cells #[.map (some (w.heap.size+1))] 90 (0,0)):=by rw[hk.block _ (ZX.1 h.v).1 (by simp;omega)];exact h.v
 refine⟨f,h1,iM (h2 hl) hk (by simpa using ne s ph),hr.dC,by simp[World.cell?,hv],by omega,fun w2 fj jC=> ?_⟩
 have fW:=bB.lq jC
 refine⟨hr.kept jC (by simp;omega) (by simpa using fun e=>ne s ph e.symm),h.l,fun n hn=> ?_,h.inj,h.g,(h.k.trans (hk.below h.k.size (by simp;omega))).trans (fW.below (by have:=h.k.size;have:=hk.size;omega) (by simp;omega)),by rw[fW.block _ (ZX.1 hv).1 (by simp;omega)];exact hv,rr⟩
 obtain⟨f',g1,g2,g3⟩:=h.s n hn
 by_cases e:n=s
 ·subst e
  rw[h1]at g1;cases g1
  exact⟨f,h1,fun hl=>absurd rfl hl.2,fun _=>fj⟩
 ·have aH:F n≠F s:=fun e'=>e (h.inj n hn s ph e')
  refine⟨f',g1,fun hl=> ?_,fun hl=> ?_⟩
  ·exact iM (iM (g2 hl.1) hk (by simpa using ne n hn)) fW (by simpa using aH)
  ·exact iM (iM (g3 fun h'=>hl ⟨h',e⟩) hk (by simpa using ne n hn)) fW (by simpa using aH)
structure iY(w:World)(b lo:Nat)(fs:List aj)(L:List ae)(F:ae→Nat):Prop where
 m:ri w b L F
 l:∀ n,n∈L↔j2 fs n=true
 s:∀ n∈L,∃ D,cy w (F n) D∧∀ m,m∈D↔m∈deps fs n
 g:∀ n∈L,lo≤F n
theorem q7.done{w:World}{fs:List aj}{L:List ae}{F:ae→Nat}{r:Nat}{left:ae→Prop}{bu:Nat}{wr:World}(h:q7 w fs L F r left bu wr)(hd:∀ s:ae,s.size≤maxLen→¬left s):iY wr (w.heap.size+1) w.heap.size fs L F:=by
 refine⟨h.q.dC,h.l,fun n hn=> ?_,fun n hn=>by have:=h.g n hn;omega⟩
 obtain⟨f,h1,_,h3⟩:=h.s n hn
 refine⟨_,h3 (hd n (h.q.2.1 n hn)),fun m=> ?_⟩
 rw[Y5,CJ,Bv]
 simp only[ZN,h.l]
 constructor
 ·rintro⟨h4|h4,h5⟩
  ·exact⟨f,h1,h4,h5⟩
  ·cases h4
 ·rintro⟨f',h4,h5,h6⟩
  rw[h1]at h4;cases h4
  exact⟨.inl h5,h6⟩
theorem iY.aQ{w w':World}{b lo:Nat}{fs:List aj}{L:List ae}{F:ae→Nat}{l:List Nat}(h:iY w b lo fs L F)(hk:bB w w' l)(hb:b∉l)(hl:∀ n∈L,F n∉l):iY w' b lo fs L F:=
 ⟨S3 h.m hk hb,h.l,fun n hn=>by obtain⟨D,h1,h2⟩:=h.s n hn;exact⟨D,iM h1 hk (hl n hn),h2⟩,h.g⟩
theorem iY.below{w w':World}{b lo:Nat}{fs:List aj}{L:List ae}{F:ae→Nat}(h:iY w b lo fs L F)(hb:Below w.heap.size w w'):iY w' b lo fs L F:=h.aQ (bB.FI hb []) (by simp) (by simp)
set_option maxHeartbeats 4000000 in
set_option maxRecDepth 1000000 in
theorem OL(c:az)(hF:q6 c.features){M:Mem}{w:World}(hI:Sx.Inv prog M ⟨w,M⟩ [] w){Cc:Array Value}(hC:RL M c.cells Cc.toList):
  Calls prog 33 #[.agg Cc] w fun e W'=>∃ L Fm,e= .returned (.map (some (w.heap.size+1)))∧iY W' (w.heap.size+1) w.heap.size c.features L Fm∧Below w.heap.size w W':=by
 obtain⟨v0,v2,v3,aF,cF,rfl,hlen,Qg⟩:=az.aW hC
 have jj:∀ (w:World) (r:Option Nat),(binOp .eql 96 (.map r) (.map none)).run prog w= .ok (.bool r.isNone) w:=fun w r=>run_eql_map_nil w _ _ _ r underlying96
 have Ks:= @run_makeMap prog
 have HI:=Hd.mk hI
 have HF:=Hd.mk hF
 have Ws:=Hd.mk Qg
 have qo:c.features.length≤9223372036854775807:=hlen
 have Ku:maxLen=9223372036854775807:=rfl
 clear hI hF Qg hlen hC
 have Qx:∀ (wr:World),wr.heap[w.heap.size+2]? =some (.cells #[.map (some (w.heap.size+1))] 90 (0,0))→wr.cell? ⟨w.heap.size+2,0,none⟩=some (.map (some (w.heap.size+1))):=fun wr h=>by simp[World.cell?,h]
 have AY:=Hd.mk Qx
 clear Qx
 go_enter func33,ntmps33
 go_wp2
 go_loopw [13] (fun i wr=>∃ (k:Nat) (L:List ae) (Fm:ae→Nat),i= .int .i64 k∧k≤c.features.length∧Hd (iX w c.features k L Fm wr)) (fun i _=>c.features.length-(intOf i).toNat)
 case atStart=>exact⟨0,[],fun _=>0,rfl,ZL _,⟨iX.start w _ c.features _⟩⟩
 obtain⟨k,L,Fm,rfl,hk,HS⟩:=hrel
 have hcell:=AY.out _ HS.out.v
 by_cases ar:k<c.features.length
 ·obtain⟨bb,off,rfl,Cf,uy,hl,hM⟩:=Ws.out k ar
  obtain⟨f,hf⟩:∃ f,f=c.features.getD k default:=⟨_,rfl⟩
  rw[← hf]at uy
  obtain⟨fy,zS,nQ⟩:=aj.parts uy
  have EJ:Hd (Sx.gM prog 40=some (true,Cf.toList.length)):=⟨by rw[hl];kernel_rfl⟩
  have aS:Hd (Sx.gM prog 38=some (true,((Cf.toList.drop 5).take 12).toArray.toList.length)):=⟨by rw[ab5 fy];kernel_rfl⟩
  have E4:(prog.info? 40).map (·.size)=some Cf.size:=(by rw[fy];kernel_rfl)
  have Nq:=Hd.mk (Bj HI.out HS.out.k)
  have HM:Hd (∀ j (hj:j<Cf.toList.length),wr.cell? ⟨bb,off+k * 18+j,none⟩=some Cf.toList[j]):=⟨fun j hj=>Nq.out.cH _ _ _ (hM j hj)⟩
  have zR:f.name.size≤maxLen:=HF.out.n f (hf ▸ PW ar)
  have HR:=Hd.mk uy
  have HN:=Hd.mk nQ
  have Hf:=Hd.mk hf
  clear hM hl uy nQ hf
  by_cases dS:f.name∈L
  ·go_wp2_with (first
    |(show wpList _ _ _ (⟨some 16,_,_,_,_,_⟩::_) _ _;refine yR rfl 40 (.tmp 15) rfl bb (off+k * 18) rfl Cf HM.out EJ.out ?_)
    |(show wpList _ _ _ (⟨none,.store _ _ _,_,_,_,_⟩::_) _ _;refine wpList_store_row rfl 40 (.tmp 5) (.tmp 16) rfl wr.heap.size Cf rfl rfl 40 _ (heap_alloc_new _ _) E4 fy.symm zS ?_;generalize mX:(World.setRow (World.alloc wr _) wr.heap.size Cf)=w2;have fW:Below wr.heap.size wr w2:=mX ▸ N8 _ _ _;have eo:w2.heap[wr.heap.size]? =some (.cells Cf 40 (0,0)):=mX ▸ setRow_heap _ _ _ _ _ _ (heap_alloc_new _ _);have fj:w2.heap.size=wr.heap.size+1:=mX ▸ (by simp[World.setRow]);have xi:w2.cell? ⟨wr.heap.size,0,none⟩=some (.string f.name):=(oO eo).trans HN.out;have yD:=Hd.mk (HS.out.to fW);have c8:=AY.out _ yD.out.v;clear mX eo)
    |(at_lookup;refine AR _ rfl _ _ 90 rfl underlying9 underlying90 (zeroValue96 _) (w.heap.size+1) L Fm rfl yD.out.m f.name rfl zR ?_;rw[ZW dS]))
   go_roundw
   case rel=>exact⟨k+1,L,Fm,by go_num,ar,⟨yD.out.skip (Hf.out ▸ dS)⟩⟩
   case measure=>simp[intOf];omega
  ·go_wp2_with (first
    |(show wpList _ _ _ (⟨some 16,_,_,_,_,_⟩::_) _ _;refine yR rfl 40 (.tmp 15) rfl bb (off+k * 18) rfl Cf HM.out EJ.out ?_)
    |(show wpList _ _ _ (⟨none,.store _ _ _,_,_,_,_⟩::_) _ _;refine wpList_store_row rfl 40 (.tmp 5) (.tmp 16) rfl wr.heap.size Cf rfl rfl 40 _ (heap_alloc_new _ _) E4 fy.symm zS ?_;generalize mX:(World.setRow (World.alloc wr _) wr.heap.size Cf)=w2;have fW:Below wr.heap.size wr w2:=mX ▸ N8 _ _ _;have eo:w2.heap[wr.heap.size]? =some (.cells Cf 40 (0,0)):=mX ▸ setRow_heap _ _ _ _ _ _ (heap_alloc_new _ _);have fj:w2.heap.size=wr.heap.size+1:=mX ▸ (by simp[World.setRow]);have xi:w2.cell? ⟨wr.heap.size,0,none⟩=some (.string f.name):=(oO eo).trans HN.out;have yD:=Hd.mk (HS.out.to fW);have c8:=AY.out _ yD.out.v;have Nt:=Hd.mk eo;clear mX eo)
    |(at_lookup;refine AR _ rfl _ _ 90 rfl underlying9 underlying90 (zeroValue96 _) (w.heap.size+1) L Fm rfl yD.out.m f.name rfl zR ?_;rw[Z5 dS])
    |(show wpList _ _ _ (⟨some 24,_,_,_,_,_⟩::_) _ _;refine yR rfl 38 (.tmp 23) rfl wr.heap.size 5 rfl ((Cf.toList.drop 5).take 12).toArray (ab4 _ Nt.out fy) aS.out ?_)
    |(go_at_call 73;refine(acX HF.out (Hf.out ▸ PW ar) Nq.out fW fj Nt.out HR.out).mono ?_;rintro e w3 ⟨⟨v3',rfl⟩,Cy,wY,lh⟩;have hn3:w3.cell? ⟨wr.heap.size,0,none⟩=some (.string f.name):=(oO lh).trans HN.out;have Hr:=Hd.mk (HS.out.to wY);have EO:=AY.out _ Hr.out.v;have H3:=Hd.mk (And.intro Cy wY);clear Cy wY lh)
    |(at_mapUpdate;refine al0 _ rfl _ _ _ 90 rfl underlying9 underlying90 (w.heap.size+1) L Fm rfl Hr.out.m (by have:=HS.out.len;omega) f.name rfl zR (wr.heap.size+1) rfl ?_;intro w4 ae3 Cd))
   have HE:iX w c.features (k+1) (ins L f.name) (fun x=>if x=f.name then wr.heap.size+1 else Fm x) w4:=by
    obtain⟨n1,n2⟩:=HS.out.new
    have hf:=Hf.out
    subst hf
    exact Hr.out.put ar dS H3.out.1 (by omega) (fun n hn=>by have:=n2 n hn;omega) ae3 Cd
   go_roundw
   case rel=>exact⟨k+1,_,_,by go_num,ar,⟨HE⟩⟩
   case measure=>simp[intOf];omega
 ·obtain rfl:k=c.features.length:=by omega
  go_wp2_with (at_range;refine V9 _ rfl _ 90 rfl underlying9 96 underlying90 mapElem (w.heap.size+1) L (fun s=> .lit (.int .i64 (Fm s))) rfl HS.out.m ?_;intro w4r II xo xc KO)
  have H0:=Hd.mk (q7.start HS.out xo xc)
  clear xo xc KO hcell
  obtain⟨wo,rfl⟩:∃ wo:World,wo=wr:=⟨wr,rfl⟩
  go_frame
  go_loopw [8] (fun _ wr=>∃ left bu,Hd (q7 w c.features L Fm wo.heap.size left bu wr)) (fun _ wr=>wr.rangeLeft (w.heap.size+1) wo.heap.size)
  case atStart=>exact⟨_,II,H0⟩
  clear H0
  obtain⟨left,bu,HR⟩:=hrel
  have hcell:=AY.out _ HR.out.v
  go_wp2_with (first
   |(at_next;refine V8 _ rfl (.tmp 34) rfl underlying9 mapElem (fun s=> .map (some (Fm s))) (w.heap.size+1) wo.heap.size L (fun s=> .lit (.int .i64 (Fm s))) (fun s _ v ps h=>S1 h) left bu rfl HR.out.q ?_ ?_))
  ·intro hd
   have HD:=Hd.mk hd
   clear hd
   go_wp2
   go_ret
   exact⟨L,Fm,rfl,HR.out.done HD.out,HR.out.k⟩
  ·intro s1 w' fS ph Kr uN ar gY E4 uG
   obtain⟨f,hf,h1,h2,h3,h4,h5⟩:=HR.out.step ph Kr uN gY
   have HC:=Hd.mk (akG h1 h2 h3 h4)
   have H5:=Hd.mk h5
   have HL:Hd (w'.rangeLeft (w.heap.size+1) wo.heap.size=fS∧wr.rangeLeft (w.heap.size+1) wo.heap.size=bu):=⟨uN.left_eq,HR.out.q.left_eq⟩
   clear hf h1 h2 h4 h5 uN gY hcell
   go_wp2_with (first
    |(go_at_call 74;refine HC.out.mono ?_;rintro e w2 ⟨rfl,fj,jC⟩;have HE:=Hd.mk (H5.out w2 fj jC);clear fj jC))
   go_roundw
   case rel=>exact⟨_,fS,HE⟩
   case measure=>rw[HE.out.q.left_eq,HL.out.2];exact ar
theorem alY{P:Program}{ops:Array Oper}{rest:List Oper}{o:Oper}{a:Act}{w:World}{Q:Exit→Act→World→Prop}(hw:Region.wanted o (yielded ops a.tmps)=true)(h:wpList P ops Q (⟨o.dst,o.op,o.type,o.pos,o.after,none⟩::rest) a w):wpList P ops Q (o::rest) a w:=by
 unfold wpList at h ⊢
 rw[ZW hw]
 rw[ZW (by simp[Region.wanted])]at h
 exact h
def rk(w:World)(lo:Nat)(v:Value)(L:List ae):Prop:=∃ a cap,v= .slice a L.length cap∧L.length≤maxLen∧∀ i (hi:i<L.length),∃ g off,a=some ⟨g,off,none⟩∧g<lo∧w.cell? ⟨g,off+i,none⟩=some (.string L[i])
def Rk(lo:Nat)(w w':World):Prop:=∀ (k:Nat) (cs:Array Value) (t:TypeId) (f:Nat×Nat),k<lo→w.heap[k]? =some (Obj.cells cs t f)→w'.heap[k]? =w.heap[k]?
theorem rk.Tr{w:World}{e:TypeId}{l0 lo:Nat}{v:Value}{L:List ae}(h:names w e l0 v L)(zP:w.heap.size≤lo):rk w lo v L:=by
 have hl:=h.len
 obtain⟨a,cap,rfl,h1,h2,h3⟩:=h
 refine⟨a,cap,rfl,hl,fun i hi=> ?_⟩
 obtain⟨g,off,cur,g1,g2,g3,g4,g5⟩:=h3 (by omega)
 have:=(ZX.1 g3).1
 exact⟨g,off,g1,by omega,by rw[oO g3];exact g5 i hi⟩
theorem rk.to{w w':World}{lo:Nat}{v:Value}{L:List ae}(h:rk w lo v L)(hk:Rk lo w w'):rk w' lo v L:=by
 obtain⟨a,cap,rfl,hl,h3⟩:=h
 refine⟨a,cap,rfl,hl,fun i hi=> ?_⟩
 obtain⟨g,off,g1,g2,g3⟩:=h3 i hi
 refine⟨g,off,g1,g2,?_⟩
 have hc:∃ cs t f,w.heap[g]? =some (Obj.cells cs t f):=by
  cases hh:w.heap[g]? with
  |none=>simp[World.cell?,hh]at g3
  |some o=>
   cases o with
   |cells cs t f=>exact⟨cs,t,f,rfl⟩
   |_=>simp[World.cell?,hh]at g3
 obtain⟨cs,t,f,hc⟩:=hc
 exact(World.cell?_of_block (a:=⟨g,off+i,none⟩) (hk g cs t f g2 hc)).trans g3
theorem Rk.below{lo:Nat}{w w':World}(h:Below w.heap.size w w'):Rk lo w w':=fun k cs t f _ hc=>h.block k (ZX.1 hc).1
theorem Rk.aQ{lo b:Nat}{w w':World}(h:bB w w' [b])(hb:∀ cs t f,w.heap[b]?≠some (Obj.cells cs t f)):Rk lo w w':=fun k cs t f _ hc=>h.block k (ZX.1 hc).1 (by
 rw[Zm];rintro rfl;exact hb _ _ _ hc)
theorem Rk.rB{lo:Nat}{w w':World}(h:tB lo w w'):Rk lo w w':=fun k cs t f hk hc=>h.below k hk (ZX.1 hc).1
theorem Ae{w:World}{b:Nat}(h:∃ es c,w.heap[b]? =some (.map es c)):∀ cs t f,w.heap[b]?≠some (Obj.cells cs t f):=fun cs t f e=>by
 obtain⟨es,c,h⟩:=h;rw[h]at e;cases e
theorem Lu{w:World}{b r:Nat}(h:∃ es c,w.heap[b]? =some (.map es c))(hr:∃ x y z u,w.heap[r]? =some (.mapIter x y z u)):b≠r:=fun e=>by
 subst e
 obtain⟨es,c,h⟩:=h
 obtain⟨x,y,z,u,hr⟩:=hr
 rw[h]at hr;cases hr
structure ja(w:World)(fs:List aj)(bA bd lo:Nat)(vN:Value)(L:List ae)(F:ae→Nat)(out:List ae)(wr:World)(vl:Value):Prop where
 v:names wr 9 lo vl out
 d:cy wr bd out
 a:iY wr bA w.heap.size fs L F
 o:gA (deps fs) (aL fs) out
 k:Below w.heap.size w wr
 r:rk wr lo vN (aL fs)
 l1:w.heap.size≤bd
 l2:bd<lo
 l3:lo≤wr.heap.size
 n1:bA≠bd
 n2:∀ n∈L,F n≠bd
theorem iY.names{w:World}{b lo:Nat}{fs:List aj}{L:List ae}{F:ae→Nat}(h:iY w b lo fs L F){S:List ae}(h1:bl S)(h2:∀ s,s∈S↔s∈L):S=aL fs:=ox h1 (xR fs) fun x=>by rw[h2,h.l,oj]
theorem iY.len{w:World}{b lo:Nat}{fs:List aj}{L:List ae}{F:ae→Nat}(h:iY w b lo fs L F):L.length≤fs.length:=ZG (ic h.m.1 fun n hn=>oj.2 ((h.l n).1 hn)) (FD fs)
theorem ja.start{w w1 w2 w4:World}{fs:List aj}{bA:Nat}{o:Obj}{vN:Value}{L:List ae}{F:ae→Nat}{e:TypeId}{l0:Nat}(uW:w1=w.alloc o)(ha:iY w2 bA (w.heap.size+1) fs L F)(hb:Below (w.heap.size+1) w1 w2)(hn:names w4 e l0 vN (aL fs))(h4:Below w2.heap.size w2 w4):
  ja w fs bA w4.heap.size (w4.heap.size+1) vN L F [] (w4.alloc (.map #[] 0)) (.slice none 0 0):=by
 subst uW
 have e1:(w.alloc o).heap.size=w.heap.size+1:=by simp
 have l1:=hb.size
 rw[e1]at l1
 have l2:=h4.size
 have o6:Below w.heap.size w w2:=Bh hb
 have hk:bB w4 (w4.alloc (.map #[] 0)) []:=(bB.refl w4 []).alloc _
 have zE:=ha.below h4
 have lt:=zE.m.lt
 refine⟨⟨none,0,rfl,by simp,by simp,fun h=>absurd h (by omega)⟩,Da w4 _ _ _,⟨(zE.aQ hk (by simp) (by simp)).m,zE.l,(zE.aQ hk (by simp) (by simp)).s,fun n hn=>by have:=zE.g n hn;omega⟩,gA.start _ _,(o6.trans (tU h4 (by omega))).trans (hk.below (by omega) (by simp)),?_,by omega,by omega,by simp,by omega,fun n hn=> ?_⟩
 ·exact(rk.Tr (hn.alloc _) (by simp))
 ·obtain⟨D,hD,_⟩:=zE.s n hn
  have:=hD.lt;omega
theorem ja.below{w:World}{fs:List aj}{bA bd lo:Nat}{vN:Value}{L:List ae}{F:ae→Nat}{out:List ae}{wr w':World}{vl:Value}(h:ja w fs bA bd lo vN L F out wr vl)(hb:Below wr.heap.size wr w'):ja w fs bA bd lo vN L F out w' vl:=
 ⟨LB h.v hb,C9 h.d hb,h.a.below hb,h.o,h.k.trans (tU hb h.k.size),h.r.to (.below hb),h.l1,h.l2,ZG h.l3 hb.size,h.n1,h.n2⟩
theorem ja.iter{w:World}{fs:List aj}{bA bd lo:Nat}{vN:Value}{L:List ae}{F:ae→Nat}{out:List ae}{wr w':World}{vl:Value}{r:Nat}(h:ja w fs bA bd lo vN L F out wr vl)(hit:∃ x y z u,wr.heap[r]? =some (.mapIter x y z u))(hr:lo≤r)(hg:wr.grownBy w' (some r)):ja w fs bA bd lo vN L F out w' vl:=by
 have hk:=bB.lq hg
 have hc:∀ cs t f,wr.heap[r]?≠some (Obj.cells cs t f):=fun cs t f e=>by obtain⟨x,y,z,u,hit⟩:=hit;rw[hit]at e;cases e
 have l1:=h.l1
 have l2:=h.l2
 have l3:=h.l3
 refine⟨h.v.grown hg hc,iM h.d hk (by simpa using Lu h.d.isMap hit),h.a.aQ hk (by simpa using Lu h.a.m.isMap hit) (fun n hn=> ?_),h.o,h.k.trans (hk.below h.k.size (by simp;omega)),h.r.to (.aQ hk hc),h.l1,h.l2,ZG h.l3 hg.size,h.n1,h.n2⟩
 obtain⟨D,hD,_⟩:=h.a.s n hn
 simpa using Lu hD.isMap hit
theorem ja.mid{w:World}{fs:List aj}{bA bd lo:Nat}{vN:Value}{L:List ae}{F:ae→Nat}{out:List ae}{wr w2:World}{vl:Value}(h:ja w fs bA bd lo vN L F out wr vl)(hg:wr.grownBy w2 (some bd))(o:Obj):names (w2.alloc o) 9 lo vl out∧lo≤(w2.alloc o).heap.size:=by
 have:=h.l3
 have:=hg.size
 exact⟨(h.v.grown hg (Ae h.d.isMap)).alloc o,by simp;omega⟩
theorem ja.put{w:World}{fs:List aj}{bA bd lo:Nat}{vN:Value}{L:List ae}{F:ae→Nat}{out:List ae}{wr w2 w3:World}{vl mC:Value}{s:ae}(h:ja w fs bA bd lo vN L F out wr vl)(hn:j6 (deps fs) (aL fs) out=some s)(hs:cy w2 bd (ins out s))(hg:wr.grownBy w2 (some bd))(o:Obj)(hv:names w3 9 lo mC (out++[s]))(hc:tB lo (w2.alloc o) w3):
  ja w fs bA bd lo vN L F (out++[s]) w3 mC:=by
 have hk:=bB.lq hg
 have l1:=h.l1
 have l2:=h.l2
 have l3:=h.l3
 have lw:=h.k.size
 have sz:=hg.size
 have uK:s∉out:=(F1.1 (XJ hn)).1
 have e1:ins out s=out++[s]:=by unfold ins;rw[Z5 uK]
 have ha:iY w2 bA w.heap.size fs L F:=h.a.aQ hk (by simpa using h.n1) (fun n hn=>by simpa using h.n2 n hn)
 have o0:iY (w2.alloc o) bA w.heap.size fs L F:=ha.aQ ((bB.refl w2 []).alloc o) (by simp) (by simp)
 have b2:Below w.heap.size wr w2:=hk.below lw (by simp;omega)
 have b3:Below w.heap.size w2 (w2.alloc o):=⟨rfl,rfl,rfl,by simp,fun k hk=>heap_alloc_old w2 o (by omega)⟩
 have b4:Below w.heap.size (w2.alloc o) w3:=⟨hc.os,hc.tape,hc.output,hc.size,fun k hk=>hc.below k (by omega) (by simp;omega)⟩
 refine⟨hv,?_,⟨o0.m.rB hc,o0.l,fun n hn=> ?_,o0.g⟩,(h.o.step hn).1,((h.k.trans b2).trans b3).trans b4,?_,h.l1,h.l2,?_,h.n1,h.n2⟩
 ·rw[← e1];exact(dC.alloc hs o).rB hc
 ·obtain⟨D,h1,h2⟩:=o0.s n hn
  exact⟨D,h1.rB hc,h2⟩
 ·exact((h.r.to (.aQ hk (Ae h.d.isMap))).to (.below (((bB.refl w2 []).alloc o).below (ZM _) (by simp)))).to (.rB hc)
 ·have:=hc.size;simp at this;omega
structure rj(w:World)(fs:List aj)(bA bd lo:Nat)(vN:Value)(L:List ae)(F:ae→Nat)(out:List ae)(s:ae)(D:List ae)(r:Nat)(left:ae→Prop)(bu:Nat)(b:Bool)(wr:World)(vl:Value):Prop where
 o:ja w fs bA bd lo vN L F out wr vl
 q:fM wr prog 9 (plainElem prog 4) (F s) r D (fun _=>tt) left bu
 b:b=true↔s∉out∧∀ m∈D,¬left m→m∈out
 r:lo≤r
theorem rj.start{w:World}{fs:List aj}{bA bd lo:Nat}{vN:Value}{L:List ae}{F:ae→Nat}{out:List ae}{s:ae}{D:List ae}{bu:Nat}{wr w':World}{vl:Value}(h:ja w fs bA bd lo vN L F out wr vl)(hr:fM w' prog 9 (plainElem prog 4) (F s) wr.heap.size D (fun _=>tt) (·∈D) bu)(hg:wr.grownBy w' none):
  rj w fs bA bd lo vN L F out s D wr.heap.size (·∈D) bu (!decide (s∈out)) w' vl:=
 ⟨h.below ((bB.FJ hg []).below (ZM _) (by simp)),hr,by
  rw[YK,decide_eq_false_iff_not]
  exact⟨fun h1=>⟨h1,fun m hm hn=>absurd hm hn⟩,fun h1=>h1.1⟩,h.l3⟩
theorem rj.next{w:World}{fs:List aj}{bA bd lo:Nat}{vN:Value}{L:List ae}{F:ae→Nat}{out:List ae}{s:ae}{D:List ae}{r:Nat}{left:ae→Prop}{bu fS:Nat}{b:Bool}{wr w':World}{vl:Value}{m:ae}(h:rj w fs bA bd lo vN L F out s D r left bu b wr vl)(hm:m∈D)
  (hr:fM w' prog 9 (plainElem prog 4) (F s) r D (fun _=>tt) (fun x=>left x∧x≠m) fS) (hg:wr.grownBy w' (some r)):rj w fs bA bd lo vN L F out s D r (fun x=>left x∧x≠m) fS (b && decide (m∈out)) w' vl∨¬left m:=by
 by_cases hl:left m
 ·refine .inl ⟨h.o.iter h.q.iter h.r hg,hr,?_,h.r⟩
  rw[Z6,h.b,ZN]
  constructor
  ·rintro⟨⟨h1,h2⟩,h3⟩
   refine⟨h1,fun x hx hn=> ?_⟩
   by_cases e:x=m
   ·rw[e];exact h3
   ·exact h2 x hx fun h'=>hn ⟨h',e⟩
  ·rintro⟨h1,h2⟩
   exact⟨⟨h1,fun x hx hn=>h2 x hx fun h'=>hn h'.1⟩,h2 m hm fun h'=>h'.2 rfl⟩
 ·exact .inr hl
theorem rj.done{w:World}{fs:List aj}{bA bd lo:Nat}{vN:Value}{L:List ae}{F:ae→Nat}{out:List ae}{s:ae}{D:List ae}{r:Nat}{left:ae→Prop}{bu:Nat}{b:Bool}{wr:World}{vl:Value}(h:rj w fs bA bd lo vN L F out s D r left bu b wr vl)(hd:∀ s:ae,s.size≤maxLen→¬left s)(hD:∀ m,m∈D↔m∈deps fs s):b=ready (deps fs) out s:=by
 rw[YJ,h.b,F1]
 constructor
 ·rintro⟨h1,h2⟩;exact⟨h1,fun m hm=>h2 m ((hD m).2 hm) (hd m (h.q.2.1 m ((hD m).2 hm)))⟩
 ·rintro⟨h1,h2⟩;exact⟨h1,fun m hm _=>h2 m ((hD m).1 hm)⟩
theorem aia{g:ae→List ae}{N out:List ae}{k:Nat}(hk:k<N.length)(hp:∀ j (hj:j<N.length),j<k→ready g out N[j]=false)(h:ready g out N[k]=true):j6 g N out=some N[k]:=by
 unfold j6
 rw[Yo]
 exact⟨h,k,hk,rfl,fun j hj=>by simpa using hp j (Nat.lt_trans hj hk) hj⟩
theorem aib{g:ae→List ae}{N out:List ae}(hp:∀ j (hj:j<N.length),ready g out N[j]=false):j6 g N out=none:=by
 unfold j6
 rw[Xw]
 intro x hx
 obtain⟨j,hj,rfl⟩:=Zf hx
 simpa using hp j hj
end Go.Proofs.YtajimcniogfpcaaGreatDoor
