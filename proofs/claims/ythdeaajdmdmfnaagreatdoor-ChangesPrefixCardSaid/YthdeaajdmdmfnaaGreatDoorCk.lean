/- catalog.dependencies: the states of its walk. -/
import Derived.Test.YthdeaajdmdmfnaaGreatDoorCi
import Derived.Test.YthdeaajdmdmfnaaGreatDoorSet
set_option linter.unusedVariables false
set_option linter.unusedSimpArgs false
namespace Go.Proofs.YthdeaajdmdmfnaaGreatDoor
open _root_.Go.Proofs.Tryz
open Go.RowKit Go.Proofs Go.Tb Go.Maps
open Go.Sx (AV Mem RL R M0 Glob)
theorem ND{α:Type}[Inhabited α]{l:List α}{i:Nat}(h:i<l.length):l.getD i default∈l:=by
 rw[show l.getD i default=l[i] by simp[Z3,h]];exact Zf _
structure wx(fs:List aq):Prop where
 f:∀ f∈fs,f.body.bS.length≤274877906944∧f.body.eU.length≤274877906944∧(∀ s∈f.body.bS,s.size≤maxLen)∧∀ s∈f.body.eU,s.size≤maxLen
 n:∀ f∈fs,f.name.size≤maxLen
 l:fs.length≤274877906944
theorem aeS{w w':World}{b:Nat}{L:List af}{f:af→Nat}(h:qb w b L f)(hb:Below w.heap.size w w'):qb w' b L f:=Qy h (bw.D2 hb []) (by simp)
theorem aq.parts{M:Mem}{f:aq}{C:Array Value}(h:RL M f.cells C.toList):C.size=18∧C.all (·.oneCell')=true∧C[0]? =some (.string f.name):=by
 refine⟨?_,by rw[← Y1];exact h.iK rfl,?_⟩
 ·have h1:=h.1
  have h2:f.cells.length=18:=rfl
  have h3:C.toList.length=C.size:=ZQ
  omega
 ·obtain⟨v,h1,h2⟩:=h.get (i:=0) (x:=sv f.name) rfl
  rw[h2.ay]at h1
  simpa using h1
theorem au.bS{M:Mem}{c:au}{C:Array Value}(h:RL M c.cells C.toList):∃ v0 v2 v3 a cap,C= #[v0,.slice a c.features.length cap,v2,v3]∧c.features.length≤maxLen∧
  ∀ i (hi:i<c.features.length),∃ bb off,a=some ⟨bb,off,none⟩∧∃ F:Array Value,RL M (c.features.getD i default).cells F.toList∧F.toList.length=18∧∀ j (hj:j<F.toList.length),M bb (off+i * 18+j)=some F.toList[j]:=by
 obtain⟨v0,l0,e0,h0,h⟩:=h.aX
 obtain⟨v1,l1,rfl,h1,h⟩:=h.aX
 obtain⟨v2,l2,rfl,h2,h⟩:=h.aX
 obtain⟨v3,l3,rfl,h3,h⟩:=h.aX
 obtain rfl:=h.pX
 have hlen:=Sg h1
 rw[ZW]at hlen
 obtain⟨a,cap,rfl,hA⟩:=mE h1
 rw[ZW]at e0
 refine⟨v0,v2,v3,a,cap,?_,hlen,fun i hi=> ?_⟩
 ·rw[← Array.toList_inj,e0]
 ·obtain⟨bb,off,e,bO,g1,g2,g3⟩:=hA i (by rw[ZW];exact hi)
  refine⟨bb,off,e,bO.toArray,?_,by simpa using g2,fun j hj=>by simpa using g3 j (by simpa using hj)⟩
  rw[Zu]at g1
  rw[show c.features.getD i default=c.features[i] by simp[Z3,hi]]
  simpa using g1
structure gW(w:World)(fs:List aq)(i:Nat)(L:List af)(F:af→Nat)(wr:World):Prop where
 m:qb wr (w.heap.size+1) L F
 l:∀ n,n∈L↔∃ j,j<i∧(fs.getD j default).name=n
 s:∀ n∈L,∃ f,findF fs n=some f∧cB wr (F n) (fO [] f.body.bS)
 inj:∀ a∈L,∀ b∈L,F a=F b→a=b
 g:∀ n∈L,w.heap.size+2<F n
 k:Below w.heap.size w wr
 v:wr.heap[w.heap.size+2]? =some (.cells #[.map (some (w.heap.size+1))] 194 (0,0))
theorem gW.start(w:World)(o:Obj)(fs:List aq)(F:af→Nat):gW w fs 0 [] F (((w.alloc o).alloc (.map #[] 0)).alloc (.cells #[.map (some (w.heap.size+1))] 194)):=by
 have h1:=SA (w.alloc o) prog 9 mapElem (fun s=> .lit (.int .i64 (F s)))
 rw[show(w.alloc o).heap.size=w.heap.size+1 by simp]at h1
 have h2:=heap_alloc_new ((w.alloc o).alloc (.map #[] 0)) (.cells #[.map (some (w.heap.size+1))] 194)
 rw[show((w.alloc o).alloc (.map #[] 0)).heap.size=w.heap.size+2 by simp]at h2
 exact⟨h1.alloc _,fun n=>⟨fun h=>(by cases h),fun⟨j,hj,_⟩=>absurd hj (by omega)⟩,fun n h=>(by cases h),fun a h=>(by cases h),fun a h=>(by cases h),((((bw.refl w []).alloc _).alloc _).alloc _).below (ZX _) (by simp),h2⟩
theorem gW.to{w:World}{fs:List aq}{i:Nat}{L:List af}{F:af→Nat}{wr w':World}(h:gW w fs i L F wr)(hb:Below wr.heap.size wr w'):gW w fs i L F w':=
 ⟨aeS h.m hb,h.l,fun n hn=>by obtain⟨f,h1,h2⟩:=h.s n hn;exact⟨f,h1,Kj h2 hb⟩,h.inj,h.g,h.k.trans (wQ hb h.k.size),by rw[hb.block _ (Z6.1 h.v).1];exact h.v⟩
theorem gW.skip{w:World}{fs:List aq}{i:Nat}{L:List af}{F:af→Nat}{wr:World}(h:gW w fs i L F wr)(hm:(fs.getD i default).name∈L):gW w fs (i+1) L F wr:=
 ⟨h.m,fun n=>by
  rw[h.l]
  constructor
  ·rintro⟨j,hj,e⟩;exact⟨j,by omega,e⟩
  ·rintro⟨j,hj,e⟩
   rcases X9 (X3 hj)with h1|rfl
   ·exact⟨j,h1,e⟩
   ·rw[e]at hm;exact(h.l n).1 hm,h.s,h.inj,h.g,h.k,h.v⟩
theorem abq{fs:List aq}{n:af}{i:Nat}(hi:i<fs.length)(hn:(fs.getD i default).name=n)(hp:∀ j,j<i→(fs.getD j default).name≠n):findF fs n=some (fs.getD i default):=by
 unfold findF
 rw[show fs.getD i default=fs[i] by simp[Z3,hi]]at hn ⊢
 rw[List.find?_eq_some_iff_getElem]
 refine⟨by simpa using hn,i,hi,rfl,fun j hj=> ?_⟩
 have:=hp j hj
 rw[show fs.getD j default=fs[j] by simp[Z3,Nat.lt_trans hj hi]]at this
 simpa using this
theorem gW.put{w:World}{fs:List aq}{i:Nat}{L:List af}{F:af→Nat}{wr w':World}{b:Nat}(h:gW w fs i L F wr)(hi:i<fs.length)(hm:(fs.getD i default).name∉L)(hs:cB wr b (fO [] (fs.getD i default).body.bS))(hb:w.heap.size+2<b)(HG:∀ n∈L,F n≠b)
  (hw:qb w' (w.heap.size+1) (ins L (fs.getD i default).name) (fun x=>if x=(fs.getD i default).name then b else F x)) (hg:wr.grownBy w' (some (w.heap.size+1))):gW w fs (i+1) (ins L (fs.getD i default).name) (fun x=>if x=(fs.getD i default).name then b else F x) w':=by
 have hk:=bw.kY hg
 refine⟨hw,fun n=> ?_,fun n hn=> ?_,fun x hx y hy e=> ?_,fun n hn=> ?_,h.k.trans (hk.below h.k.size (by simp)),?_⟩
 ·rw[pK,h.l]
  constructor
  ·rintro(rfl|⟨j,hj,e⟩)
   ·exact⟨i,by omega,rfl⟩
   ·exact⟨j,by omega,e⟩
  ·rintro⟨j,hj,e⟩
   rcases X9 (X3 hj)with h1|rfl
   ·exact .inr ⟨j,h1,e⟩
   ·exact .inl e.symm
 ·by_cases e:n=(fs.getD i default).name
  ·refine⟨fs.getD i default,abq hi e.symm (fun j hj e'=>hm ((h.l _).2 ⟨j,hj,e'.trans e⟩)),?_⟩
   rw[ZV e];exact iF hs hk (by simp;omega)
  ·have jq:n∈L:=by
    rcases pK.1 hn with h1|h1
    ·exact absurd h1 e
    ·exact h1
   obtain⟨f,h1,h2⟩:=h.s n jq
   have:=h.g n jq
   refine⟨f,h1,?_⟩
   rw[Z7 e];exact iF h2 hk (by simp;omega)
 ·have sR:=pK.1 hx
  have O9:=pK.1 hy
  by_cases e1:x=(fs.getD i default).name<;>by_cases e2:y=(fs.getD i default).name
  ·rw[e1,e2]
  ·rw[ZV e1,Z7 e2]at e
   exact absurd e.symm (HG y (O9.resolve_left e2))
  ·rw[Z7 e1,ZV e2]at e
   exact absurd e (HG x (sR.resolve_left e1))
  ·rw[Z7 e1,Z7 e2]at e
   exact h.inj x (sR.resolve_left e1) y (O9.resolve_left e2) e
 ·show _<if n=_ then b else F n
  split
  ·exact hb
  ·rename_i e
   exact h.g n ((pK.1 hn).resolve_left e)
 ·rw[hk.block _ (Z6.1 h.v).1 (by simp)];exact h.v
theorem gW.len{w:World}{fs:List aq}{i:Nat}{L:List af}{F:af→Nat}{wr:World}(h:gW w fs i L F wr):L.length≤i:=by
 have h1:=jU (a:=L) (b:=(List.range i).map fun j=>(fs.getD j default).name) h.m.1 fun n hn=>by
  obtain⟨j,hj,e⟩:=(h.l n).1 hn
  exact Zi.2 ⟨j,Y2.2 hj,e⟩
 simpa using h1
theorem gW.new{w:World}{fs:List aq}{i:Nat}{L:List af}{F:af→Nat}{wr:World}(h:gW w fs i L F wr):w.heap.size+2<wr.heap.size∧∀ n∈L,F n<wr.heap.size:=
 ⟨(Z6.1 h.v).1,fun n hn=>by obtain⟨f,_,h2⟩:=h.s n hn;exact h2.lt⟩
theorem aan{f:aq}{fs:List aq}(hF:wx fs)(hf:f∈fs){wr w2:World}{M:Mem}{Cf:Array Value}(hI:Sx.Inv prog M ⟨wr,M⟩ [] wr)(eZ:Below wr.heap.size wr w2)(eL:w2.heap.size=wr.heap.size+1)(dQ:w2.heap[wr.heap.size]? =some (.cells Cf 37 (0,0)))(xp:RL M f.cells Cf.toList):
  Calls prog 180 #[.agg ((Cf.toList.drop 5).take 12).toArray,.map (some (wr.heap.size+1)),.map (some (wr.heap.size+2))] ((w2.alloc (.map #[] 0)).alloc (.map #[] 0)) fun e w3=>(∃ v,e= .returned v)∧cB w3 (wr.heap.size+1) (fO [] f.body.bS)∧
   Below wr.heap.size wr w3∧w3.heap[wr.heap.size]? =some (.cells Cf 37 (0,0)):=by
 have dZ:Below wr.heap.size wr ((w2.alloc (.map #[] 0)).alloc (.map #[] 0)):=(eZ.alloc (by omega) _).alloc (by simp;omega) _
 have h1:cB ((w2.alloc (.map #[] 0)).alloc (.map #[] 0)) (wr.heap.size+1) []:=by
  have:=Ev w2 prog 9 4
  rw[eL]at this;exact this.alloc _
 have h2:cB ((w2.alloc (.map #[] 0)).alloc (.map #[] 0)) (wr.heap.size+2) []:=by
  have:=Ev (w2.alloc (.map #[] 0)) prog 9 4
  rw[show(w2.alloc (.map #[] 0)).heap.size=wr.heap.size+2 by simp;omega]at this;exact this
 obtain⟨l1,l2,l3,l4⟩:=hF.f f hf
 have bg:((w2.alloc (.map #[] 0)).alloc (.map #[] 0)).heap.size=wr.heap.size+3:=by simp;omega
 refine(MK f.body.size f.body (ZX _) M _ (FT hI dZ) ((Cf.toList.drop 5).take 12).toArray (by simpa using Wp xp) (wr.heap.size+1) (wr.heap.size+2) [] [] h1 h2 (by omega) (by simp;omega) (by simp;omega) l3 l4).mono fun e w3 ⟨g1,g2,g3,g4⟩=>⟨g1,g2,?_,?_⟩
 ·exact dZ.trans (g4.below (by omega) (by simp))
 ·rw[g4.block _ (by omega) (by simp),heap_alloc_old _ _ (by simp;omega),heap_alloc_old _ _ (by omega)];exact dQ
structure p9(w:World)(fs:List aq)(L:List af)(F:af→Nat)(r:Nat)(left:af→Prop)(bJ:Nat)(wr:World):Prop where
 q:fS wr prog 9 mapElem (w.heap.size+1) r L (fun s=> .lit (.int .i64 (F s))) left bJ
 l:∀ n,n∈L↔vq fs n=true
 s:∀ n∈L,∃ f,findF fs n=some f∧(left n→cB wr (F n) (fO [] f.body.bS))∧(¬left n→cB wr (F n) ((fO [] f.body.bS).filter fun s=>decide (s∈L)))
 inj:∀ a∈L,∀ b∈L,F a=F b→a=b
 g:∀ n∈L,w.heap.size+2<F n
 k:Below w.heap.size w wr
 v:wr.heap[w.heap.size+2]? =some (.cells #[.map (some (w.heap.size+1))] 194 (0,0))
 rr:w.heap.size+2<r
theorem p9.start{w:World}{fs:List aq}{L:List af}{F:af→Nat}{wr w':World}{bJ:Nat}(h:gW w fs fs.length L F wr)(hr:fS w' prog 9 mapElem (w.heap.size+1) wr.heap.size L (fun s=> .lit (.int .i64 (F s))) (·∈L) bJ)(hg:wr.grownBy w' none):p9 w fs L F wr.heap.size (·∈L) bJ w':=by
 have hk:=bw.D3 hg []
 have lt:=(Z6.1 h.v).1
 refine⟨hr,fun n=> ?_,fun n hn=> ?_,h.inj,h.g,h.k.trans (hk.below h.k.size (by simp)),by rw[hk.block _ lt (by simp)];exact h.v,lt⟩
 ·rw[h.l,Pn]
  constructor
  ·rintro⟨j,hj,e⟩
   refine⟨fs.getD j default,?_,e⟩
   rw[show fs.getD j default=fs[j] by simp[Z3,hj]];exact Zf _
  ·rintro⟨f,hf,e⟩
   obtain⟨j,hj,rfl⟩:=YG hf
   exact⟨j,hj,by rw[show fs.getD j default=fs[j] by simp[Z3,hj]];exact e⟩
 ·obtain⟨f,h1,h2⟩:=h.s n hn
  exact⟨f,h1,fun _=>iF h2 hk (by simp),fun hl=>absurd hn hl⟩
theorem p9.step{w:World}{fs:List aq}{L:List af}{F:af→Nat}{r:Nat}{left:af→Prop}{bJ j5:Nat}{wr w':World}{s:af}(h:p9 w fs L F r left bJ wr)(vg:s∈L)(hl:left s)(hr:fS w' prog 9 mapElem (w.heap.size+1) r L (fun s=> .lit (.int .i64 (F s))) (fun x=>left x∧x≠s) j5)(hg:wr.grownBy w' (some r)):
  ∃ f,findF fs s=some f∧cB w' (F s) (fO [] f.body.bS)∧qb w' (w.heap.size+1) L F∧w'.cell? ⟨w.heap.size+2,0,none⟩=some (.map (some (w.heap.size+1)))∧F s≠w.heap.size+1∧
   ∀ w2,cB w2 (F s) ((fO [] f.body.bS).filter fun s=>decide (s∈L))→w'.grownBy w2 (some (F s))→p9 w fs L F r (fun x=>left x∧x≠s) j5 w2:=by
 have hk:=bw.kY hg
 have rr:=h.rr
 obtain⟨f,h1,h2,_⟩:=h.s s vg
 have gs:=h.g s vg
 obtain⟨x,y,z,u,hit⟩:=h.q.iter
 have ne:∀ n∈L,F n≠r:=fun n hn e=>by
  obtain⟨f',_,h3,h4⟩:=h.s n hn
  have:∃ D,cB wr (F n) D:=by
   by_cases hl:left n
   ·exact⟨_,h3 hl⟩
   ·exact⟨_,h4 hl⟩
  obtain⟨D,hD⟩:=this
  obtain⟨es,c,hm⟩:=hD.isMap
  rw[e,hit]at hm;cases hm
 have hv:w'.heap[w.heap.size+2]? =some (.cells #[.map (some (w.heap.size+1))] 194 (0,0)):=by rw[hk.block _ (Z6.1 h.v).1 (by simp;omega)];exact h.v
 refine⟨f,h1,iF (h2 hl) hk (by simpa using ne s vg),hr.dj,by simp[World.cell?,hv],by omega,fun w2 eL nW=> ?_⟩
 have eZ:=bw.kY nW
 refine⟨hr.kept nW (by simp;omega) (by simpa using fun e=>ne s vg e.symm),h.l,fun n hn=> ?_,h.inj,h.g,(h.k.trans (hk.below h.k.size (by simp;omega))).trans (eZ.below (by have:=h.k.size;have:=hk.size;omega) (by simp;omega)),by rw[eZ.block _ (Z6.1 hv).1 (by simp;omega)];exact hv,rr⟩
 obtain⟨f',g1,g2,g3⟩:=h.s n hn
 by_cases e:n=s
 ·subst e
  rw[h1]at g1;cases g1
  exact⟨f,h1,fun hl=>absurd rfl hl.2,fun _=>eL⟩
 ·have aE:F n≠F s:=fun e'=>e (h.inj n hn s vg e')
  refine⟨f',g1,fun hl=> ?_,fun hl=> ?_⟩
  ·exact iF (iF (g2 hl.1) hk (by simpa using ne n hn)) eZ (by simpa using aE)
  ·exact iF (iF (g3 fun h'=>hl ⟨h',e⟩) hk (by simpa using ne n hn)) eZ (by simpa using aE)
structure gY(w:World)(b lo:Nat)(fs:List aq)(L:List af)(F:af→Nat):Prop where
 m:qb w b L F
 l:∀ n,n∈L↔vq fs n=true
 s:∀ n∈L,∃ D,cB w (F n) D∧∀ m,m∈D↔m∈deps fs n
 g:∀ n∈L,lo≤F n
theorem p9.done{w:World}{fs:List aq}{L:List af}{F:af→Nat}{r:Nat}{left:af→Prop}{bJ:Nat}{wr:World}(h:p9 w fs L F r left bJ wr)(hd:∀ s:af,s.size≤maxLen→¬left s):gY wr (w.heap.size+1) w.heap.size fs L F:=by
 refine⟨h.q.dj,h.l,fun n hn=> ?_,fun n hn=>by have:=h.g n hn;omega⟩
 obtain⟨f,h1,_,h3⟩:=h.s n hn
 refine⟨_,h3 (hd n (h.q.2.1 n hn)),fun m=> ?_⟩
 rw[Ze,Pt,MC]
 simp only[ZR,h.l]
 constructor
 ·rintro⟨h4|h4,h5⟩
  ·exact⟨f,h1,h4,h5⟩
  ·cases h4
 ·rintro⟨f',h4,h5,h6⟩
  rw[h1]at h4;cases h4
  exact⟨.inl h5,h6⟩
theorem gY.az{w w':World}{b lo:Nat}{fs:List aq}{L:List af}{F:af→Nat}{l:List Nat}(h:gY w b lo fs L F)(hk:bw w w' l)(hb:b∉l)(hl:∀ n∈L,F n∉l):gY w' b lo fs L F:=
 ⟨Qy h.m hk hb,h.l,fun n hn=>by obtain⟨D,h1,h2⟩:=h.s n hn;exact⟨D,iF h1 hk (hl n hn),h2⟩,h.g⟩
theorem gY.below{w w':World}{b lo:Nat}{fs:List aq}{L:List af}{F:af→Nat}(h:gY w b lo fs L F)(hb:Below w.heap.size w w'):gY w' b lo fs L F:=h.az (bw.D2 hb []) (by simp) (by simp)
set_option maxHeartbeats 4000000 in
set_option maxRecDepth 1000000 in
theorem aap(c:au)(hF:wx c.features){M:Mem}{w:World}(hI:Sx.Inv prog M ⟨w,M⟩ [] w){Cc:Array Value}(hC:RL M c.cells Cc.toList):
  Calls prog 129 #[.agg Cc] w fun e W'=>∃ L Fm,e= .returned (.map (some (w.heap.size+1)))∧gY W' (w.heap.size+1) w.heap.size c.features L Fm∧Below w.heap.size w W':=by
 obtain⟨v0,v2,v3,aF,cF,rfl,hlen,N0⟩:=au.bS hC
 have iq:∀ (w:World) (r:Option Nat),(binOp .eql 200 (.map r) (.map none)).run prog w= .ok (.bool r.isNone) w:=fun w r=>run_eql_map_nil w _ _ _ r underlying200
 have OJ:= @run_makeMap prog
 have HI:=Hd.mk hI
 have HF:=Hd.mk hF
 have TC:=Hd.mk N0
 have py:c.features.length≤9223372036854775807:=hlen
 have ON:maxLen=9223372036854775807:=rfl
 clear hI hF N0 hlen hC
 have zZ:∀ (wr:World),wr.heap[w.heap.size+2]? =some (.cells #[.map (some (w.heap.size+1))] 194 (0,0))→wr.cell? ⟨w.heap.size+2,0,none⟩=some (.map (some (w.heap.size+1))):=fun wr h=>by simp[World.cell?,h]
 have yL:=Hd.mk zZ
 clear zZ
 go_enter func129,ntmps129
 go_wp2
 go_loopw [13] (fun i wr=>∃ (k:Nat) (L:List af) (Fm:af→Nat),i= .int .i64 k∧k≤c.features.length∧Hd (gW w c.features k L Fm wr)) (fun i _=>c.features.length-(intOf i).toNat)
 case atStart=>exact⟨0,[],fun _=>0,rfl,ZM _,⟨gW.start w _ c.features _⟩⟩
 obtain⟨k,L,Fm,rfl,hk,HS⟩:=hrel
 have hcell:=yL.out _ HS.out.v
 by_cases aw:k<c.features.length
 ·obtain⟨bb,off,rfl,Cf,xp,hl,hM⟩:=TC.out k aw
  obtain⟨f,hf⟩:∃ f,f=c.features.getD k default:=⟨_,rfl⟩
  rw[← hf]at xp
  obtain⟨jT,OO,im⟩:=aq.parts xp
  have uG:Hd (Sx.eH prog 37=some (true,Cf.toList.length)):=⟨by rw[hl];kernel_rfl⟩
  have VC:Hd (Sx.eH prog 35=some (true,((Cf.toList.drop 5).take 12).toArray.toList.length)):=⟨by rw[Wr jT];kernel_rfl⟩
  have Du:(prog.info? 37).map (·.size)=some Cf.size:=(by rw[jT];kernel_rfl)
  have Lm:=Hd.mk (FT HI.out HS.out.k)
  have HM:Hd (∀ j (hj:j<Cf.toList.length),wr.cell? ⟨bb,off+k * 18+j,none⟩=some Cf.toList[j]):=⟨fun j hj=>Lm.out.bL _ _ _ (hM j hj)⟩
  have xG:f.name.size≤maxLen:=HF.out.n f (hf ▸ ND aw)
  have HR:=Hd.mk xp
  have HN:=Hd.mk im
  have Hf:=Hd.mk hf
  clear hM hl xp im hf
  by_cases de:f.name∈L
  ·go_wp2_with (first
    |(show wpList _ _ _ (⟨some 16,_,_,_,_,_⟩::_) _ _;refine ze rfl 37 (.tmp 15) rfl bb (off+k * 18) rfl Cf HM.out uG.out ?_)
    |(show wpList _ _ _ (⟨none,.store _ _ _,_,_,_,_⟩::_) _ _;refine wpList_store_row rfl 37 (.tmp 5) (.tmp 16) rfl wr.heap.size Cf rfl rfl 37 _ (heap_alloc_new _ _) Du jT.symm OO ?_;generalize lZ:(World.setRow (World.alloc wr _) wr.heap.size Cf)=w2;have eZ:Below wr.heap.size wr w2:=lZ ▸ Mc _ _ _;have dQ:w2.heap[wr.heap.size]? =some (.cells Cf 37 (0,0)):=lZ ▸ setRow_heap _ _ _ _ _ _ (heap_alloc_new _ _);have eL:w2.heap.size=wr.heap.size+1:=lZ ▸ (by simp[World.setRow]);have jQ:w2.cell? ⟨wr.heap.size,0,none⟩=some (.string f.name):=(qi dQ).trans HN.out;have wC:=Hd.mk (HS.out.to eZ);have cG:=yL.out _ wC.out.v;clear lZ dQ)
    |(at_lookup;refine Bw _ rfl _ _ 194 rfl underlying9 underlying194 (zeroValue200 _) (w.heap.size+1) L Fm rfl wC.out.m f.name rfl xG ?_;rw[ZV de]))
   go_roundw
   case rel=>exact⟨k+1,L,Fm,by go_num,aw,⟨wC.out.skip (Hf.out ▸ de)⟩⟩
   case measure=>simp[intOf];omega
  ·go_wp2_with (first
    |(show wpList _ _ _ (⟨some 16,_,_,_,_,_⟩::_) _ _;refine ze rfl 37 (.tmp 15) rfl bb (off+k * 18) rfl Cf HM.out uG.out ?_)
    |(show wpList _ _ _ (⟨none,.store _ _ _,_,_,_,_⟩::_) _ _;refine wpList_store_row rfl 37 (.tmp 5) (.tmp 16) rfl wr.heap.size Cf rfl rfl 37 _ (heap_alloc_new _ _) Du jT.symm OO ?_;generalize lZ:(World.setRow (World.alloc wr _) wr.heap.size Cf)=w2;have eZ:Below wr.heap.size wr w2:=lZ ▸ Mc _ _ _;have dQ:w2.heap[wr.heap.size]? =some (.cells Cf 37 (0,0)):=lZ ▸ setRow_heap _ _ _ _ _ _ (heap_alloc_new _ _);have eL:w2.heap.size=wr.heap.size+1:=lZ ▸ (by simp[World.setRow]);have jQ:w2.cell? ⟨wr.heap.size,0,none⟩=some (.string f.name):=(qi dQ).trans HN.out;have wC:=Hd.mk (HS.out.to eZ);have cG:=yL.out _ wC.out.v;have Lp:=Hd.mk dQ;clear lZ dQ)
    |(at_lookup;refine Bw _ rfl _ _ 194 rfl underlying9 underlying194 (zeroValue200 _) (w.heap.size+1) L Fm rfl wC.out.m f.name rfl xG ?_;rw[Z7 de])
    |(show wpList _ _ _ (⟨some 24,_,_,_,_,_⟩::_) _ _;refine ze rfl 35 (.tmp 23) rfl wr.heap.size 5 rfl ((Cf.toList.drop 5).take 12).toArray (Wq _ Lp.out jT) VC.out ?_)
    |(go_at_call 180;refine(aan HF.out (Hf.out ▸ ND aw) Lm.out eZ eL Lp.out HR.out).mono ?_;rintro e w3 ⟨⟨v3',rfl⟩,OY,uJ,lW⟩;have hn3:w3.cell? ⟨wr.heap.size,0,none⟩=some (.string f.name):=(qi lW).trans HN.out;have Fj:=Hd.mk (HS.out.to uJ);have C3:=yL.out _ Fj.out.v;have H3:=Hd.mk (And.intro OY uJ);clear OY uJ lW)
    |(at_mapUpdate;refine ajD _ rfl _ _ _ 194 rfl underlying9 underlying194 (w.heap.size+1) L Fm rfl Fj.out.m (by have:=HS.out.len;omega) f.name rfl xG (wr.heap.size+1) rfl ?_;intro w4 acy z8))
   have HE:gW w c.features (k+1) (ins L f.name) (fun x=>if x=f.name then wr.heap.size+1 else Fm x) w4:=by
    obtain⟨n1,n2⟩:=HS.out.new
    have hf:=Hf.out
    subst hf
    exact Fj.out.put aw de H3.out.1 (by omega) (fun n hn=>by have:=n2 n hn;omega) acy z8
   go_roundw
   case rel=>exact⟨k+1,_,_,by go_num,aw,⟨HE⟩⟩
   case measure=>simp[intOf];omega
 ·obtain rfl:k=c.features.length:=by omega
  go_wp2_with (at_range;refine ajE _ rfl _ 194 rfl underlying9 200 underlying194 mapElem (w.heap.size+1) L (fun s=> .lit (.int .i64 (Fm s))) rfl HS.out.m ?_;intro w4r Xf Dn Dc acD)
  have H0:=Hd.mk (p9.start HS.out Dn Dc)
  clear Dn Dc acD hcell
  obtain⟨wo,rfl⟩:∃ wo:World,wo=wr:=⟨wr,rfl⟩
  go_frame
  go_loopw [8] (fun _ wr=>∃ left bJ,Hd (p9 w c.features L Fm wo.heap.size left bJ wr)) (fun _ wr=>wr.rangeLeft (w.heap.size+1) wo.heap.size)
  case atStart=>exact⟨_,Xf,H0⟩
  clear H0
  obtain⟨left,bJ,HR⟩:=hrel
  have hcell:=yL.out _ HR.out.v
  go_wp2_with (first
   |(at_next;refine ajC _ rfl (.tmp 34) rfl underlying9 mapElem (fun s=> .map (some (Fm s))) (w.heap.size+1) wo.heap.size L (fun s=> .lit (.int .i64 (Fm s))) (fun s _ v ps h=>Qx h) left bJ rfl HR.out.q ?_ ?_))
  ·intro hd
   have HD:=Hd.mk hd
   clear hd
   go_wp2
   go_ret
   exact⟨L,Fm,rfl,HR.out.done HD.out,HR.out.k⟩
  ·intro s1 w' j5 vg acg IU aw ij Du uQ
   obtain⟨f,hf,h1,h2,h3,h4,h5⟩:=HR.out.step vg acg IU ij
   have HC:=Hd.mk (aiF h1 h2 h3 h4)
   have H5:=Hd.mk h5
   have HL:Hd (w'.rangeLeft (w.heap.size+1) wo.heap.size=j5∧wr.rangeLeft (w.heap.size+1) wo.heap.size=bJ):=⟨IU.left_eq,HR.out.q.left_eq⟩
   clear hf h1 h2 h4 h5 IU ij hcell
   go_wp2_with (first
    |(go_at_call 181;refine HC.out.mono ?_;rintro e w2 ⟨rfl,eL,nW⟩;have HE:=Hd.mk (H5.out w2 eL nW);clear eL nW))
   go_roundw
   case rel=>exact⟨_,j5,HE⟩
   case measure=>rw[HE.out.q.left_eq,HL.out.2];exact aw
def qc(w:World)(lo:Nat)(v:Value)(L:List af):Prop:=∃ a cap,v= .slice a L.length cap∧L.length≤maxLen∧∀ i (hi:i<L.length),∃ g off,a=some ⟨g,off,none⟩∧g<lo∧w.cell? ⟨g,off+i,none⟩=some (.string L[i])
def Rk(lo:Nat)(w w':World):Prop:=∀ (k:Nat) (cs:Array Value) (t:TypeId) (f:Nat×Nat),k<lo→w.heap[k]? =some (Obj.cells cs t f)→w'.heap[k]? =w.heap[k]?
theorem qc.QU{w:World}{e:TypeId}{l0 lo:Nat}{v:Value}{L:List af}(h:names w e l0 v L)(xE:w.heap.size≤lo):qc w lo v L:=by
 have hl:=h.len
 obtain⟨a,cap,rfl,h1,h2,h3⟩:=h
 refine⟨a,cap,rfl,hl,fun i hi=> ?_⟩
 obtain⟨g,off,cur,g1,g2,g3,g4,g5⟩:=h3 (by omega)
 have:=(Z6.1 g3).1
 exact⟨g,off,g1,by omega,by rw[qi g3];exact g5 i hi⟩
theorem qc.to{w w':World}{lo:Nat}{v:Value}{L:List af}(h:qc w lo v L)(hk:Rk lo w w'):qc w' lo v L:=by
 obtain⟨a,cap,rfl,hl,h3⟩:=h
 refine⟨a,cap,rfl,hl,fun i hi=> ?_⟩
 obtain⟨g,off,g1,g2,g3⟩:=h3 i hi
 refine⟨g,off,g1,g2,?_⟩
 have hc:∃ cs t f,w.heap[g]? =some (Obj.cells cs t f):=by
  cases hh:w.heap[g]? with
  |none=>simp[World.cell?,hh]at g3
  |some o=>
   cases o with
   |cells cs t f=>exact⟨cs,t,f,rfl⟩
   |_=>simp[World.cell?,hh]at g3
 obtain⟨cs,t,f,hc⟩:=hc
 exact(World.cell?_of_block (a:=⟨g,off+i,none⟩) (hk g cs t f g2 hc)).trans g3
theorem Rk.below{lo:Nat}{w w':World}(h:Below w.heap.size w w'):Rk lo w w':=fun k cs t f _ hc=>h.block k (Z6.1 hc).1
theorem Rk.az{lo b:Nat}{w w':World}(h:bw w w' [b])(hb:∀ cs t f,w.heap[b]?≠some (Obj.cells cs t f)):Rk lo w w':=fun k cs t f _ hc=>h.block k (Z6.1 hc).1 (by
 rw[Zg];rintro rfl;exact hb _ _ _ hc)
theorem Rk.wV{lo:Nat}{w w':World}(h:BC lo w w'):Rk lo w w':=fun k cs t f hk hc=>h.below k hk (Z6.1 hc).1
theorem AY{w:World}{b:Nat}(h:∃ es c,w.heap[b]? =some (.map es c)):∀ cs t f,w.heap[b]?≠some (Obj.cells cs t f):=fun cs t f e=>by
 obtain⟨es,c,h⟩:=h;rw[h]at e;cases e
theorem JE{w:World}{b r:Nat}(h:∃ es c,w.heap[b]? =some (.map es c))(hr:∃ x y z u,w.heap[r]? =some (.mapIter x y z u)):b≠r:=fun e=>by
 subst e
 obtain⟨es,c,h⟩:=h
 obtain⟨x,y,z,u,hr⟩:=hr
 rw[h]at hr;cases hr
structure lI(w:World)(fs:List aq)(bA bd lo:Nat)(vN:Value)(L:List af)(F:af→Nat)(out:List af)(wr:World)(vl:Value):Prop where
 v:names wr 9 lo vl out
 d:cB wr bd out
 a:gY wr bA w.heap.size fs L F
 o:nI (deps fs) (cR fs) out
 k:Below w.heap.size w wr
 r:qc wr lo vN (cR fs)
 l1:w.heap.size≤bd
 l2:bd<lo
 l3:lo≤wr.heap.size
 n1:bA≠bd
 n2:∀ n∈L,F n≠bd
theorem gY.names{w:World}{b lo:Nat}{fs:List aq}{L:List af}{F:af→Nat}(h:gY w b lo fs L F){S:List af}(h1:cC S)(h2:∀ s,s∈S↔s∈L):S=cR fs:=tH h1 (QH fs) fun x=>by rw[h2,h.l,x8]
theorem gY.len{w:World}{b lo:Nat}{fs:List aq}{L:List af}{F:af→Nat}(h:gY w b lo fs L F):L.length≤fs.length:=ZI (jU h.m.1 fun n hn=>x8.2 ((h.l n).1 hn)) (JI fs)
theorem lI.start{w w1 w2 w4:World}{fs:List aq}{bA:Nat}{o:Obj}{vN:Value}{L:List af}{F:af→Nat}{e:TypeId}{l0:Nat}(sQ:w1=w.alloc o)(ha:gY w2 bA (w.heap.size+1) fs L F)(hb:Below (w.heap.size+1) w1 w2)(hn:names w4 e l0 vN (cR fs))(h4:Below w2.heap.size w2 w4):
  lI w fs bA w4.heap.size (w4.heap.size+1) vN L F [] (w4.alloc (.map #[] 0)) (.slice none 0 0):=by
 subst sQ
 have e1:(w.alloc o).heap.size=w.heap.size+1:=by simp
 have l1:=hb.size
 rw[e1]at l1
 have l2:=h4.size
 have uI:Below w.heap.size w w2:=B7 hb
 have hk:bw w4 (w4.alloc (.map #[] 0)) []:=(bw.refl w4 []).alloc _
 have xu:=ha.below h4
 have lt:=xu.m.lt
 refine⟨⟨none,0,rfl,by simp,by simp,fun h=>absurd h (by omega)⟩,Ev w4 _ _ _,⟨(xu.az hk (by simp) (by simp)).m,xu.l,(xu.az hk (by simp) (by simp)).s,fun n hn=>by have:=xu.g n hn;omega⟩,nI.start _ _,(uI.trans (wQ h4 (by omega))).trans (hk.below (by omega) (by simp)),?_,by omega,by omega,by simp,by omega,fun n hn=> ?_⟩
 ·exact(qc.QU (hn.alloc _) (by simp))
 ·obtain⟨D,hD,_⟩:=xu.s n hn
  have:=hD.lt;omega
theorem lI.below{w:World}{fs:List aq}{bA bd lo:Nat}{vN:Value}{L:List af}{F:af→Nat}{out:List af}{wr w':World}{vl:Value}(h:lI w fs bA bd lo vN L F out wr vl)(hb:Below wr.heap.size wr w'):lI w fs bA bd lo vN L F out w' vl:=
 ⟨QJ h.v hb,Kj h.d hb,h.a.below hb,h.o,h.k.trans (wQ hb h.k.size),h.r.to (.below hb),h.l1,h.l2,ZI h.l3 hb.size,h.n1,h.n2⟩
theorem lI.iter{w:World}{fs:List aq}{bA bd lo:Nat}{vN:Value}{L:List af}{F:af→Nat}{out:List af}{wr w':World}{vl:Value}{r:Nat}(h:lI w fs bA bd lo vN L F out wr vl)(hit:∃ x y z u,wr.heap[r]? =some (.mapIter x y z u))(hr:lo≤r)(hg:wr.grownBy w' (some r)):lI w fs bA bd lo vN L F out w' vl:=by
 have hk:=bw.kY hg
 have hc:∀ cs t f,wr.heap[r]?≠some (Obj.cells cs t f):=fun cs t f e=>by obtain⟨x,y,z,u,hit⟩:=hit;rw[hit]at e;cases e
 have l1:=h.l1
 have l2:=h.l2
 have l3:=h.l3
 refine⟨h.v.grown hg hc,iF h.d hk (by simpa using JE h.d.isMap hit),h.a.az hk (by simpa using JE h.a.m.isMap hit) (fun n hn=> ?_),h.o,h.k.trans (hk.below h.k.size (by simp;omega)),h.r.to (.az hk hc),h.l1,h.l2,ZI h.l3 hg.size,h.n1,h.n2⟩
 obtain⟨D,hD,_⟩:=h.a.s n hn
 simpa using JE hD.isMap hit
theorem lI.put{w:World}{fs:List aq}{bA bd lo:Nat}{vN:Value}{L:List af}{F:af→Nat}{out:List af}{wr w2 w3:World}{vl lF:Value}{s:af}(h:lI w fs bA bd lo vN L F out wr vl)(hn:D9 (deps fs) (cR fs) out=some s)(hs:cB w2 bd (ins out s))(hg:wr.grownBy w2 (some bd))(o:Obj)(hv:names w3 9 lo lF (out++[s]))(hc:BC lo (w2.alloc o) w3):
  lI w fs bA bd lo vN L F (out++[s]) w3 lF:=by
 have hk:=bw.kY hg
 have l1:=h.l1
 have l2:=h.l2
 have l3:=h.l3
 have lw:=h.k.size
 have sz:=hg.size
 have kv:s∉out:=(J0.1 (List.find?_some hn)).1
 have e1:ins out s=out++[s]:=by unfold ins;rw[Z7 kv]
 have ha:gY w2 bA w.heap.size fs L F:=h.a.az hk (by simpa using h.n1) (fun n hn=>by simpa using h.n2 n hn)
 have iP:gY (w2.alloc o) bA w.heap.size fs L F:=ha.az ((bw.refl w2 []).alloc o) (by simp) (by simp)
 have b2:Below w.heap.size wr w2:=hk.below lw (by simp;omega)
 have b3:Below w.heap.size w2 (w2.alloc o):=⟨rfl,rfl,rfl,by simp,fun k hk=>heap_alloc_old w2 o (by omega)⟩
 have b4:Below w.heap.size (w2.alloc o) w3:=⟨hc.os,hc.tape,hc.output,hc.size,fun k hk=>hc.below k (by omega) (by simp;omega)⟩
 refine⟨hv,?_,⟨iP.m.wV hc,iP.l,fun n hn=> ?_,iP.g⟩,(h.o.step hn).1,((h.k.trans b2).trans b3).trans b4,?_,h.l1,h.l2,?_,h.n1,h.n2⟩
 ·rw[← e1];exact(dj.alloc hs o).wV hc
 ·obtain⟨D,h1,h2⟩:=iP.s n hn
  exact⟨D,h1.wV hc,h2⟩
 ·exact((h.r.to (.az hk (AY h.d.isMap))).to (.below (((bw.refl w2 []).alloc o).below (ZX _) (by simp)))).to (.wV hc)
 ·have:=hc.size;simp at this;omega
structure ua(w:World)(fs:List aq)(bA bd lo:Nat)(vN:Value)(L:List af)(F:af→Nat)(out:List af)(s:af)(D:List af)(r:Nat)(left:af→Prop)(bJ:Nat)(b:Bool)(wr:World)(vl:Value):Prop where
 o:lI w fs bA bd lo vN L F out wr vl
 q:fS wr prog 9 (plainElem prog 4) (F s) r D (fun _=>tt) left bJ
 b:b=true↔s∉out∧∀ m∈D,¬left m→m∈out
 r:lo≤r
theorem ua.start{w:World}{fs:List aq}{bA bd lo:Nat}{vN:Value}{L:List af}{F:af→Nat}{out:List af}{s:af}{D:List af}{bJ:Nat}{wr w':World}{vl:Value}(h:lI w fs bA bd lo vN L F out wr vl)(hr:fS w' prog 9 (plainElem prog 4) (F s) wr.heap.size D (fun _=>tt) (·∈D) bJ)(hg:wr.grownBy w' none):
  ua w fs bA bd lo vN L F out s D wr.heap.size (·∈D) bJ (!decide (s∈out)) w' vl:=
 ⟨h.below ((bw.D3 hg []).below (ZX _) (by simp)),hr,by
  rw[YF,decide_eq_false_iff_not]
  exact⟨fun h1=>⟨h1,fun m hm hn=>absurd hm hn⟩,fun h1=>h1.1⟩,h.l3⟩
theorem ua.next{w:World}{fs:List aq}{bA bd lo:Nat}{vN:Value}{L:List af}{F:af→Nat}{out:List af}{s:af}{D:List af}{r:Nat}{left:af→Prop}{bJ j5:Nat}{b:Bool}{wr w':World}{vl:Value}{m:af}(h:ua w fs bA bd lo vN L F out s D r left bJ b wr vl)(hm:m∈D)
  (hr:fS w' prog 9 (plainElem prog 4) (F s) r D (fun _=>tt) (fun x=>left x∧x≠m) j5) (hg:wr.grownBy w' (some r)):ua w fs bA bd lo vN L F out s D r (fun x=>left x∧x≠m) j5 (b && decide (m∈out)) w' vl∨¬left m:=by
 by_cases hl:left m
 ·refine .inl ⟨h.o.iter h.q.iter h.r hg,hr,?_,h.r⟩
  rw[Z8,h.b,ZR]
  constructor
  ·rintro⟨⟨h1,h2⟩,h3⟩
   refine⟨h1,fun x hx hn=> ?_⟩
   by_cases e:x=m
   ·rw[e];exact h3
   ·exact h2 x hx fun h'=>hn ⟨h',e⟩
  ·rintro⟨h1,h2⟩
   exact⟨⟨h1,fun x hx hn=>h2 x hx fun h'=>hn h'.1⟩,h2 m hm fun h'=>h'.2 rfl⟩
 ·exact .inr hl
theorem ua.done{w:World}{fs:List aq}{bA bd lo:Nat}{vN:Value}{L:List af}{F:af→Nat}{out:List af}{s:af}{D:List af}{r:Nat}{left:af→Prop}{bJ:Nat}{b:Bool}{wr:World}{vl:Value}(h:ua w fs bA bd lo vN L F out s D r left bJ b wr vl)(hd:∀ s:af,s.size≤maxLen→¬left s)(hD:∀ m,m∈D↔m∈deps fs s):b=ready (deps fs) out s:=by
 rw[YN,h.b,J0]
 constructor
 ·rintro⟨h1,h2⟩;exact⟨h1,fun m hm=>h2 m ((hD m).2 hm) (hd m (h.q.2.1 m ((hD m).2 hm)))⟩
 ·rintro⟨h1,h2⟩;exact⟨h1,fun m hm _=>h2 m ((hD m).1 hm)⟩
end Go.Proofs.YthdeaajdmdmfnaaGreatDoor
