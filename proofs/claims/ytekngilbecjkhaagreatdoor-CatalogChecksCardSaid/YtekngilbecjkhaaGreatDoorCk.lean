/- catalog.dependencies: the states of its walk. -/
import Derived.Test.YtekngilbecjkhaaGreatDoorCi
import Derived.Test.YtekngilbecjkhaaGreatDoorDa
set_option linter.unusedVariables false
set_option linter.unusedSimpArgs false
namespace Go.Proofs.YtekngilbecjkhaaGreatDoor
open Go.RowKit Go.Proofs Go.Tb Go.Maps
open Go.Sx (AV Inv Mem RL R M0 Glob)
theorem getD_in{α:Type}[Inhabited α]{l:List α}{i:Nat}(h:i<l.length):l.getD i default∈l:=by
 rw[show l.getD i default=l[i] by simp[List.getD_eq_getElem?_getD,h]];exact List.getElem_mem _
structure CFit(fs:List Fea):Prop where
 f:∀ f∈fs,f.body.feats.length≤274877906944∧f.body.tabs.length≤274877906944∧(∀ s∈f.body.feats,s.size≤maxLen)∧∀ s∈f.body.tabs,s.size≤maxLen
 n:∀ f∈fs,f.name.size≤maxLen
 l:fs.length≤274877906944
theorem maps_below{w w':World}{b:Nat}{L:List Str}{f:Str→Nat}(h:MapsAt w b L f)(hb:Below w.heap.size w w'):MapsAt w' b L f:=maps_keep h (Keep.of_below hb []) (by simp)
theorem Fea.parts{M:Mem}{f:Fea}{C:Array Value}(h:RL M f.cells C.toList):C.size=18∧C.all (·.oneCell')=true∧C[0]? =some (.string f.name):=by
 refine⟨?_,by rw[← Array.all_toList];exact h.all_one rfl,?_⟩
 ·have h1:=h.1
  have h2:f.cells.length=18:=rfl
  have h3:C.toList.length=C.size:=Array.length_toList
  omega
 ·obtain⟨v,h1,h2⟩:=h.get (i:=0) (x:=sv f.name) rfl
  rw[h2.of_v]at h1
  simpa using h1
theorem Cat.feats{M:Mem}{c:Cat}{C:Array Value}(h:RL M c.cells C.toList):∃ v0 v2 v3 a cap,C= #[v0,.slice a c.features.length cap,v2,v3]∧c.features.length≤maxLen∧
  ∀ i (hi:i<c.features.length),∃ bb off,a=some ⟨bb,off,none⟩∧∃ F:Array Value,RL M (c.features.getD i default).cells F.toList∧F.toList.length=18∧∀ j (hj:j<F.toList.length),M bb (off+i * 18+j)=some F.toList[j]:=by
 obtain⟨v0,l0,e0,h0,h⟩:=h.uncons
 obtain⟨v1,l1,rfl,h1,h⟩:=h.uncons
 obtain⟨v2,l2,rfl,h2,h⟩:=h.uncons
 obtain⟨v3,l3,rfl,h3,h⟩:=h.uncons
 obtain rfl:=h.unnil
 have hlen:=sl_len h1
 rw[List.length_map]at hlen
 obtain⟨a,cap,rfl,hA⟩:=c_rows h1
 rw[List.length_map]at e0
 refine⟨v0,v2,v3,a,cap,?_,hlen,fun i hi=> ?_⟩
 ·rw[← Array.toList_inj,e0]
 ·obtain⟨bb,off,e,cs',g1,g2,g3⟩:=hA i (by rw[List.length_map];exact hi)
  refine⟨bb,off,e,cs'.toArray,?_,by simpa using g2,fun j hj=>by simpa using g3 j (by simpa using hj)⟩
  rw[List.getElem_map]at g1
  rw[show c.features.getD i default=c.features[i] by simp[List.getD_eq_getElem?_getD,hi]]
  simpa using g1
structure DSt(w:World)(fs:List Fea)(i:Nat)(L:List Str)(F:Str→Nat)(wr:World):Prop where
 m:MapsAt wr (w.heap.size+1) L F
 l:∀ n,n∈L↔∃ j,j<i∧(fs.getD j default).name=n
 s:∀ n∈L,∃ f,findF fs n=some f∧SetAt wr (F n) (insAll [] f.body.feats)
 inj:∀ a∈L,∀ b∈L,F a=F b→a=b
 g:∀ n∈L,w.heap.size+2<F n
 k:Below w.heap.size w wr
 v:wr.heap[w.heap.size+2]? =some (.cells #[.map (some (w.heap.size+1))] 76 (0,0))
theorem DSt.start(w:World)(o:Obj)(fs:List Fea)(F:Str→Nat):DSt w fs 0 [] F (((w.alloc o).alloc (.map #[] 0)).alloc (.cells #[.map (some (w.heap.size+1))] 76)):=by
 have h1:=tbl_made (w.alloc o) Tryz.prog 9 mapElem (fun s=> .lit (.int .i64 (F s)))
 rw[show(w.alloc o).heap.size=w.heap.size+1 by simp]at h1
 have h2:=heap_alloc_new ((w.alloc o).alloc (.map #[] 0)) (.cells #[.map (some (w.heap.size+1))] 76)
 rw[show((w.alloc o).alloc (.map #[] 0)).heap.size=w.heap.size+2 by simp]at h2
 exact⟨h1.alloc _,fun n=>⟨fun h=>(by cases h),fun⟨j,hj,_⟩=>absurd hj (by omega)⟩,fun n h=>(by cases h),fun a h=>(by cases h),fun a h=>(by cases h),((((Keep.refl w []).alloc _).alloc _).alloc _).below (Nat.le_refl _) (by simp),h2⟩
theorem DSt.to{w:World}{fs:List Fea}{i:Nat}{L:List Str}{F:Str→Nat}{wr w':World}(h:DSt w fs i L F wr)(hb:Below wr.heap.size wr w'):DSt w fs i L F w':=
 ⟨maps_below h.m hb,h.l,fun n hn=>by obtain⟨f,h1,h2⟩:=h.s n hn;exact⟨f,h1,set_below h2 hb⟩,h.inj,h.g,h.k.trans (c_less hb h.k.size),by rw[hb.block _ (Array.getElem?_eq_some_iff.1 h.v).1];exact h.v⟩
theorem DSt.skip{w:World}{fs:List Fea}{i:Nat}{L:List Str}{F:Str→Nat}{wr:World}(h:DSt w fs i L F wr)(hm:(fs.getD i default).name∈L):DSt w fs (i+1) L F wr:=
 ⟨h.m,fun n=>by
  rw[h.l]
  constructor
  ·rintro⟨j,hj,e⟩;exact⟨j,by omega,e⟩
  ·rintro⟨j,hj,e⟩
   rcases Nat.lt_or_eq_of_le (Nat.le_of_lt_succ hj)with h1|rfl
   ·exact⟨j,h1,e⟩
   ·rw[e]at hm;exact(h.l n).1 hm,h.s,h.inj,h.g,h.k,h.v⟩
theorem findF_first{fs:List Fea}{n:Str}{i:Nat}(hi:i<fs.length)(hn:(fs.getD i default).name=n)(hp:∀ j,j<i→(fs.getD j default).name≠n):findF fs n=some (fs.getD i default):=by
 unfold findF
 rw[show fs.getD i default=fs[i] by simp[List.getD_eq_getElem?_getD,hi]]at hn ⊢
 rw[List.find?_eq_some_iff_getElem]
 refine⟨by simpa using hn,i,hi,rfl,fun j hj=> ?_⟩
 have:=hp j hj
 rw[show fs.getD j default=fs[j] by simp[List.getD_eq_getElem?_getD,Nat.lt_trans hj hi]]at this
 simpa using this
theorem DSt.put{w:World}{fs:List Fea}{i:Nat}{L:List Str}{F:Str→Nat}{wr w':World}{b:Nat}(h:DSt w fs i L F wr)(hi:i<fs.length)(hm:(fs.getD i default).name∉L)(hs:SetAt wr b (insAll [] (fs.getD i default).body.feats))(hb:w.heap.size+2<b)(hbF:∀ n∈L,F n≠b)
  (hw:MapsAt w' (w.heap.size+1) (ins L (fs.getD i default).name) (fun x=>if x=(fs.getD i default).name then b else F x)) (hg:wr.grownBy w' (some (w.heap.size+1))):DSt w fs (i+1) (ins L (fs.getD i default).name) (fun x=>if x=(fs.getD i default).name then b else F x) w':=by
 have hk:=Keep.of_grown hg
 refine⟨hw,fun n=> ?_,fun n hn=> ?_,fun x hx y hy e=> ?_,fun n hn=> ?_,h.k.trans (hk.below h.k.size (by simp)),?_⟩
 ·rw[ins_mem,h.l]
  constructor
  ·rintro(rfl|⟨j,hj,e⟩)
   ·exact⟨i,by omega,rfl⟩
   ·exact⟨j,by omega,e⟩
  ·rintro⟨j,hj,e⟩
   rcases Nat.lt_or_eq_of_le (Nat.le_of_lt_succ hj)with h1|rfl
   ·exact .inr ⟨j,h1,e⟩
   ·exact .inl e.symm
 ·by_cases e:n=(fs.getD i default).name
  ·refine⟨fs.getD i default,findF_first hi e.symm (fun j hj e'=>hm ((h.l _).2 ⟨j,hj,e'.trans e⟩)),?_⟩
   rw[if_pos e];exact set_keep hs hk (by simp;omega)
  ·have hn':n∈L:=by
    rcases ins_mem.1 hn with h1|h1
    ·exact absurd h1 e
    ·exact h1
   obtain⟨f,h1,h2⟩:=h.s n hn'
   have:=h.g n hn'
   refine⟨f,h1,?_⟩
   rw[if_neg e];exact set_keep h2 hk (by simp;omega)
 ·have hx':=ins_mem.1 hx
  have hy':=ins_mem.1 hy
  by_cases e1:x=(fs.getD i default).name<;>by_cases e2:y=(fs.getD i default).name
  ·rw[e1,e2]
  ·rw[if_pos e1,if_neg e2]at e
   exact absurd e.symm (hbF y (hy'.resolve_left e2))
  ·rw[if_neg e1,if_pos e2]at e
   exact absurd e (hbF x (hx'.resolve_left e1))
  ·rw[if_neg e1,if_neg e2]at e
   exact h.inj x (hx'.resolve_left e1) y (hy'.resolve_left e2) e
 ·show _<if n=_ then b else F n
  split
  ·exact hb
  ·rename_i e
   exact h.g n ((ins_mem.1 hn).resolve_left e)
 ·rw[hk.block _ (Array.getElem?_eq_some_iff.1 h.v).1 (by simp)];exact h.v
theorem DSt.len{w:World}{fs:List Fea}{i:Nat}{L:List Str}{F:Str→Nat}{wr:World}(h:DSt w fs i L F wr):L.length≤i:=by
 have h1:=nodup_le (a:=L) (b:=(List.range i).map fun j=>(fs.getD j default).name) h.m.1 fun n hn=>by
  obtain⟨j,hj,e⟩:=(h.l n).1 hn
  exact List.mem_map.2 ⟨j,List.mem_range.2 hj,e⟩
 simpa using h1
theorem DSt.new{w:World}{fs:List Fea}{i:Nat}{L:List Str}{F:Str→Nat}{wr:World}(h:DSt w fs i L F wr):w.heap.size+2<wr.heap.size∧∀ n∈L,F n<wr.heap.size:=
 ⟨(Array.getElem?_eq_some_iff.1 h.v).1,fun n hn=>by obtain⟨f,_,h2⟩:=h.s n hn;exact h2.lt⟩
theorem dep_dir{f:Fea}{fs:List Fea}(hF:CFit fs)(hf:f∈fs){wr w2:World}{M:Mem}{Cf:Array Value}(hI:Inv Tryz.prog M wr [] wr)(hk2:Below wr.heap.size wr w2)(hs2:w2.heap.size=wr.heap.size+1)(hr2:w2.heap[wr.heap.size]? =some (.cells Cf 49 (0,0)))(hRf:RL M f.cells Cf.toList):
  Calls Tryz.prog 45 #[.agg ((Cf.toList.drop 5).take 12).toArray,.map (some (wr.heap.size+1)),.map (some (wr.heap.size+2))] ((w2.alloc (.map #[] 0)).alloc (.map #[] 0)) fun e w3=>(∃ v,e= .returned v)∧SetAt w3 (wr.heap.size+1) (insAll [] f.body.feats)∧
   Below wr.heap.size wr w3∧w3.heap[wr.heap.size]? =some (.cells Cf 49 (0,0)):=by
 have hb2:Below wr.heap.size wr ((w2.alloc (.map #[] 0)).alloc (.map #[] 0)):=(hk2.alloc (by omega) _).alloc (by simp;omega) _
 have h1:SetAt ((w2.alloc (.map #[] 0)).alloc (.map #[] 0)) (wr.heap.size+1) []:=by
  have:=set_made w2 Tryz.prog 9 4
  rw[hs2]at this;exact this.alloc _
 have h2:SetAt ((w2.alloc (.map #[] 0)).alloc (.map #[] 0)) (wr.heap.size+2) []:=by
  have:=set_made (w2.alloc (.map #[] 0)) Tryz.prog 9 4
  rw[show(w2.alloc (.map #[] 0)).heap.size=wr.heap.size+2 by simp;omega]at this;exact this
 obtain⟨l1,l2,l3,l4⟩:=hF.f f hf
 have hsz:((w2.alloc (.map #[] 0)).alloc (.map #[] 0)).heap.size=wr.heap.size+3:=by simp;omega
 refine(direct_ok f.body.size f.body (Nat.le_refl _) M _ (c_inv hI hb2) ((Cf.toList.drop 5).take 12).toArray (by simpa using body_at hRf) (wr.heap.size+1) (wr.heap.size+2) [] [] h1 h2 (by omega) (by simp;omega) (by simp;omega) l3 l4).mono fun e w3 ⟨g1,g2,g3,g4⟩=>⟨g1,g2,?_,?_⟩
 ·exact hb2.trans (g4.below (by omega) (by simp))
 ·rw[g4.block _ (by omega) (by simp),heap_alloc_old _ _ (by simp;omega),heap_alloc_old _ _ (by omega)];exact hr2
structure DIn(w:World)(fs:List Fea)(L:List Str)(F:Str→Nat)(r:Nat)(left:Str→Prop)(cnt:Nat)(wr:World):Prop where
 q:rng wr Tryz.prog 9 mapElem (w.heap.size+1) r L (fun s=> .lit (.int .i64 (F s))) left cnt
 l:∀ n,n∈L↔inF fs n=true
 s:∀ n∈L,∃ f,findF fs n=some f∧(left n→SetAt wr (F n) (insAll [] f.body.feats))∧(¬left n→SetAt wr (F n) ((insAll [] f.body.feats).filter fun s=>decide (s∈L)))
 inj:∀ a∈L,∀ b∈L,F a=F b→a=b
 g:∀ n∈L,w.heap.size+2<F n
 k:Below w.heap.size w wr
 v:wr.heap[w.heap.size+2]? =some (.cells #[.map (some (w.heap.size+1))] 76 (0,0))
 rr:w.heap.size+2<r
theorem DIn.start{w:World}{fs:List Fea}{L:List Str}{F:Str→Nat}{wr w':World}{cnt:Nat}(h:DSt w fs fs.length L F wr)(hr:rng w' Tryz.prog 9 mapElem (w.heap.size+1) wr.heap.size L (fun s=> .lit (.int .i64 (F s))) (·∈L) cnt)(hg:wr.grownBy w' none):DIn w fs L F wr.heap.size (·∈L) cnt w':=by
 have hk:=Keep.of_none hg []
 have lt:=(Array.getElem?_eq_some_iff.1 h.v).1
 refine⟨hr,fun n=> ?_,fun n hn=> ?_,h.inj,h.g,h.k.trans (hk.below h.k.size (by simp)),by rw[hk.block _ lt (by simp)];exact h.v,lt⟩
 ·rw[h.l,inF_iff]
  constructor
  ·rintro⟨j,hj,e⟩
   refine⟨fs.getD j default,?_,e⟩
   rw[show fs.getD j default=fs[j] by simp[List.getD_eq_getElem?_getD,hj]];exact List.getElem_mem _
  ·rintro⟨f,hf,e⟩
   obtain⟨j,hj,rfl⟩:=List.getElem_of_mem hf
   exact⟨j,hj,by rw[show fs.getD j default=fs[j] by simp[List.getD_eq_getElem?_getD,hj]];exact e⟩
 ·obtain⟨f,h1,h2⟩:=h.s n hn
  exact⟨f,h1,fun _=>set_keep h2 hk (by simp),fun hl=>absurd hn hl⟩
theorem DIn.step{w:World}{fs:List Fea}{L:List Str}{F:Str→Nat}{r:Nat}{left:Str→Prop}{cnt cnt':Nat}{wr w':World}{s:Str}(h:DIn w fs L F r left cnt wr)(hsL:s∈L)(hl:left s)(hr:rng w' Tryz.prog 9 mapElem (w.heap.size+1) r L (fun s=> .lit (.int .i64 (F s))) (fun x=>left x∧x≠s) cnt')(hg:wr.grownBy w' (some r)):
  ∃ f,findF fs s=some f∧SetAt w' (F s) (insAll [] f.body.feats)∧MapsAt w' (w.heap.size+1) L F∧w'.cell? ⟨w.heap.size+2,0,none⟩=some (.map (some (w.heap.size+1)))∧F s≠w.heap.size+1∧
   ∀ w2,SetAt w2 (F s) ((insAll [] f.body.feats).filter fun s=>decide (s∈L))→w'.grownBy w2 (some (F s))→DIn w fs L F r (fun x=>left x∧x≠s) cnt' w2:=by
 have hk:=Keep.of_grown hg
 have rr:=h.rr
 obtain⟨f,h1,h2,_⟩:=h.s s hsL
 have gs:=h.g s hsL
 obtain⟨x,y,z,u,hit⟩:=h.q.iter
 have ne:∀ n∈L,F n≠r:=fun n hn e=>by
  obtain⟨f',_,h3,h4⟩:=h.s n hn
  have:∃ D,SetAt wr (F n) D:=by
   by_cases hl:left n
   ·exact⟨_,h3 hl⟩
   ·exact⟨_,h4 hl⟩
  obtain⟨D,hD⟩:=this
  obtain⟨es,c,hm⟩:=hD.isMap
  rw[e,hit]at hm;cases hm
 have hv:w'.heap[w.heap.size+2]? =some (.cells #[.map (some (w.heap.size+1))] 76 (0,0)):=by rw[hk.block _ (Array.getElem?_eq_some_iff.1 h.v).1 (by simp;omega)];exact h.v
 refine⟨f,h1,set_keep (h2 hl) hk (by simpa using ne s hsL),hr.tbl,by simp[World.cell?,hv],by omega,fun w2 hs2 hg2=> ?_⟩
 have hk2:=Keep.of_grown hg2
 refine⟨hr.kept hg2 (by simp;omega) (by simpa using fun e=>ne s hsL e.symm),h.l,fun n hn=> ?_,h.inj,h.g,(h.k.trans (hk.below h.k.size (by simp;omega))).trans (hk2.below (by have:=h.k.size;have:=hk.size;omega) (by simp;omega)),by rw[hk2.block _ (Array.getElem?_eq_some_iff.1 hv).1 (by simp;omega)];exact hv,rr⟩
 obtain⟨f',g1,g2,g3⟩:=h.s n hn
 by_cases e:n=s
 ·subst e
  rw[h1]at g1;cases g1
  exact⟨f,h1,fun hl=>absurd rfl hl.2,fun _=>hs2⟩
 ·have hne:F n≠F s:=fun e'=>e (h.inj n hn s hsL e')
  refine⟨f',g1,fun hl=> ?_,fun hl=> ?_⟩
  ·exact set_keep (set_keep (g2 hl.1) hk (by simpa using ne n hn)) hk2 (by simpa using hne)
  ·exact set_keep (set_keep (g3 fun h'=>hl ⟨h',e⟩) hk (by simpa using ne n hn)) hk2 (by simpa using hne)
structure DepsAt(w:World)(b lo:Nat)(fs:List Fea)(L:List Str)(F:Str→Nat):Prop where
 m:MapsAt w b L F
 l:∀ n,n∈L↔inF fs n=true
 s:∀ n∈L,∃ D,SetAt w (F n) D∧∀ m,m∈D↔m∈deps fs n
 g:∀ n∈L,lo≤F n
theorem DIn.done{w:World}{fs:List Fea}{L:List Str}{F:Str→Nat}{r:Nat}{left:Str→Prop}{cnt:Nat}{wr:World}(h:DIn w fs L F r left cnt wr)(hd:∀ s:Str,s.size≤maxLen→¬left s):DepsAt wr (w.heap.size+1) w.heap.size fs L F:=by
 refine⟨h.q.tbl,h.l,fun n hn=> ?_,fun n hn=>by have:=h.g n hn;omega⟩
 obtain⟨f,h1,_,h3⟩:=h.s n hn
 refine⟨_,h3 (hd n (h.q.2.1 n hn)),fun m=> ?_⟩
 rw[List.mem_filter,insAll_mem,deps_mem]
 simp only[decide_eq_true_eq,h.l]
 constructor
 ·rintro⟨h4|h4,h5⟩
  ·exact⟨f,h1,h4,h5⟩
  ·cases h4
 ·rintro⟨f',h4,h5,h6⟩
  rw[h1]at h4;cases h4
  exact⟨.inl h5,h6⟩
theorem DepsAt.keep{w w':World}{b lo:Nat}{fs:List Fea}{L:List Str}{F:Str→Nat}{l:List Nat}(h:DepsAt w b lo fs L F)(hk:Keep w w' l)(hb:b∉l)(hl:∀ n∈L,F n∉l):DepsAt w' b lo fs L F:=
 ⟨maps_keep h.m hk hb,h.l,fun n hn=>by obtain⟨D,h1,h2⟩:=h.s n hn;exact⟨D,set_keep h1 hk (hl n hn),h2⟩,h.g⟩
theorem DepsAt.below{w w':World}{b lo:Nat}{fs:List Fea}{L:List Str}{F:Str→Nat}(h:DepsAt w b lo fs L F)(hb:Below w.heap.size w w'):DepsAt w' b lo fs L F:=h.keep (Keep.of_below hb []) (by simp) (by simp)
set_option maxHeartbeats 4000000 in
set_option maxRecDepth 1000000 in
theorem deps_walk(c:Cat)(hF:CFit c.features){M:Mem}{w:World}(hI:Inv Tryz.prog M w [] w){Cc:Array Value}(hC:RL M c.cells Cc.toList):
  Calls Tryz.prog 48 #[.agg Cc] w fun e W'=>∃ L Fm,e= .returned (.map (some (w.heap.size+1)))∧DepsAt W' (w.heap.size+1) w.heap.size c.features L Fm∧Below w.heap.size w W':=by
 obtain⟨v0,v2,v3,aF,cF,rfl,hlen,hFe⟩:=Cat.feats hC
 have hnil:∀ (w:World) (r:Option Nat),(binOp .eql 70 (.map r) (.map none)).run Tryz.prog w= .ok (.bool r.isNone) w:=fun w r=>run_eql_map_nil w _ _ _ r Tryz.underlying70
 have hmm:= @run_makeMap Tryz.prog
 have HI:=Hd.mk hI
 have HF:=Hd.mk hF
 have HFe:=Hd.mk hFe
 have hlen2:c.features.length≤9223372036854775807:=hlen
 have hmx:maxLen=9223372036854775807:=rfl
 clear hI hF hFe hlen hC
 have hcv:∀ (wr:World),wr.heap[w.heap.size+2]? =some (.cells #[.map (some (w.heap.size+1))] 76 (0,0))→wr.cell? ⟨w.heap.size+2,0,none⟩=some (.map (some (w.heap.size+1))):=fun wr h=>by simp[World.cell?,h]
 have HCV:=Hd.mk hcv
 clear hcv
 go_enter Tryz.func48,Tryz.ntmps48
 go_wp2
 go_loopw [13] (fun i wr=>∃ (k:Nat) (L:List Str) (Fm:Str→Nat),i= .int .i64 k∧k≤c.features.length∧Hd (DSt w c.features k L Fm wr)) (fun i _=>c.features.length-(intOf i).toNat)
 case atStart=>exact⟨0,[],fun _=>0,rfl,Nat.zero_le _,⟨DSt.start w _ c.features _⟩⟩
 obtain⟨k,L,Fm,rfl,hk,HS⟩:=hrel
 have hcell:=HCV.out _ HS.out.v
 by_cases hlt:k<c.features.length
 ·obtain⟨bb,off,rfl,Cf,hRf,hl,hM⟩:=HFe.out k hlt
  obtain⟨f,hf⟩:∃ f,f=c.features.getD k default:=⟨_,rfl⟩
  rw[← hf]at hRf
  obtain⟨hz1,ho1,hn1⟩:=Fea.parts hRf
  have hag:Hd (Sx.aggT Tryz.prog 49=some (true,Cf.toList.length)):=⟨by rw[hl];kernel_rfl⟩
  have agB:Hd (Sx.aggT Tryz.prog 37=some (true,((Cf.toList.drop 5).take 12).toArray.toList.length)):=⟨by rw[body_len hz1];kernel_rfl⟩
  have hsz1:(Tryz.prog.info? 49).map (·.size)=some Cf.size:=(by rw[hz1];kernel_rfl)
  have HIr:=Hd.mk (c_inv HI.out HS.out.k)
  have HM:Hd (∀ j (hj:j<Cf.toList.length),wr.cell? ⟨bb,off+k * 18+j,none⟩=some Cf.toList[j]):=⟨fun j hj=>HIr.out.imm _ _ _ (hM j hj)⟩
  have hnm:f.name.size≤maxLen:=HF.out.n f (hf ▸ getD_in hlt)
  have HR:=Hd.mk hRf
  have HN:=Hd.mk hn1
  have Hf:=Hd.mk hf
  clear hM hl hRf hn1 hf
  by_cases hin:f.name∈L
  ·go_wp2_with (first
    |(show wpList _ _ _ (⟨some 16,_,_,_,_,_⟩::_) _ _;refine c_load rfl 49 (.tmp 15) rfl bb (off+k * 18) rfl Cf HM.out hag.out ?_)
    |(show wpList _ _ _ (⟨none,.store _ _ _,_,_,_,_⟩::_) _ _;refine wpList_store_row rfl 49 (.tmp 5) (.tmp 16) rfl wr.heap.size Cf rfl rfl 49 _ (heap_alloc_new _ _) hsz1 hz1.symm ho1 ?_;generalize hw2:(World.setRow (World.alloc wr _) wr.heap.size Cf)=w2;have hk2:Below wr.heap.size wr w2:=hw2 ▸ below_row _ _ _;have hr2:w2.heap[wr.heap.size]? =some (.cells Cf 49 (0,0)):=hw2 ▸ setRow_heap _ _ _ _ _ _ (heap_alloc_new _ _);have hs2:w2.heap.size=wr.heap.size+1:=hw2 ▸ (by simp[World.setRow]);have hn2:w2.cell? ⟨wr.heap.size,0,none⟩=some (.string f.name):=(cell_at hr2).trans HN.out;have HS2:=Hd.mk (HS.out.to hk2);have hc2:=HCV.out _ HS2.out.v;clear hw2 hr2)
    |(at_lookup;refine wp_getm _ rfl _ _ 76 rfl Tryz.underlying9 Tryz.underlying76 (Tryz.zeroValue70 _) (w.heap.size+1) L Fm rfl HS2.out.m f.name rfl hnm ?_;rw[if_pos hin]))
   go_roundw
   case rel=>exact⟨k+1,L,Fm,by go_num,hlt,⟨HS2.out.skip (Hf.out ▸ hin)⟩⟩
   case measure=>simp[intOf];omega
  ·go_wp2_with (first
    |(show wpList _ _ _ (⟨some 16,_,_,_,_,_⟩::_) _ _;refine c_load rfl 49 (.tmp 15) rfl bb (off+k * 18) rfl Cf HM.out hag.out ?_)
    |(show wpList _ _ _ (⟨none,.store _ _ _,_,_,_,_⟩::_) _ _;refine wpList_store_row rfl 49 (.tmp 5) (.tmp 16) rfl wr.heap.size Cf rfl rfl 49 _ (heap_alloc_new _ _) hsz1 hz1.symm ho1 ?_;generalize hw2:(World.setRow (World.alloc wr _) wr.heap.size Cf)=w2;have hk2:Below wr.heap.size wr w2:=hw2 ▸ below_row _ _ _;have hr2:w2.heap[wr.heap.size]? =some (.cells Cf 49 (0,0)):=hw2 ▸ setRow_heap _ _ _ _ _ _ (heap_alloc_new _ _);have hs2:w2.heap.size=wr.heap.size+1:=hw2 ▸ (by simp[World.setRow]);have hn2:w2.cell? ⟨wr.heap.size,0,none⟩=some (.string f.name):=(cell_at hr2).trans HN.out;have HS2:=Hd.mk (HS.out.to hk2);have hc2:=HCV.out _ HS2.out.v;have Hr2:=Hd.mk hr2;clear hw2 hr2)
    |(at_lookup;refine wp_getm _ rfl _ _ 76 rfl Tryz.underlying9 Tryz.underlying76 (Tryz.zeroValue70 _) (w.heap.size+1) L Fm rfl HS2.out.m f.name rfl hnm ?_;rw[if_neg hin])
    |(show wpList _ _ _ (⟨some 24,_,_,_,_,_⟩::_) _ _;refine c_load rfl 37 (.tmp 23) rfl wr.heap.size 5 rfl ((Cf.toList.drop 5).take 12).toArray (body_cells _ Hr2.out hz1) agB.out ?_)
    |(go_at_call 45;refine(dep_dir HF.out (Hf.out ▸ getD_in hlt) HIr.out hk2 hs2 Hr2.out HR.out).mono ?_;rintro e w3 ⟨⟨v3',rfl⟩,hset3,hb3,hr3⟩;have hn3:w3.cell? ⟨wr.heap.size,0,none⟩=some (.string f.name):=(cell_at hr3).trans HN.out;have HS3:=Hd.mk (HS.out.to hb3);have hc3:=HCV.out _ HS3.out.v;have H3:=Hd.mk (And.intro hset3 hb3);clear hset3 hb3 hr3)
    |(at_mapUpdate;refine wp_putm _ rfl _ _ _ 76 rfl Tryz.underlying9 Tryz.underlying76 (w.heap.size+1) L Fm rfl HS3.out.m (by have:=HS.out.len;omega) f.name rfl hnm (wr.heap.size+1) rfl ?_;intro w4 hset4 hg4))
   have HE:DSt w c.features (k+1) (ins L f.name) (fun x=>if x=f.name then wr.heap.size+1 else Fm x) w4:=by
    obtain⟨n1,n2⟩:=HS.out.new
    have hf:=Hf.out
    subst hf
    exact HS3.out.put hlt hin H3.out.1 (by omega) (fun n hn=>by have:=n2 n hn;omega) hset4 hg4
   go_roundw
   case rel=>exact⟨k+1,_,_,by go_num,hlt,⟨HE⟩⟩
   case measure=>simp[intOf];omega
 ·obtain rfl:k=c.features.length:=by omega
  go_wp2_with (at_range;refine wp_range _ rfl _ 76 rfl Tryz.underlying9 70 Tryz.underlying76 mapElem (w.heap.size+1) L (fun s=> .lit (.int .i64 (Fm s))) rfl HS.out.m ?_;intro w4r cnt0 hrg0 hg0 hsz0)
  have H0:=Hd.mk (DIn.start HS.out hrg0 hg0)
  clear hrg0 hg0 hsz0 hcell
  obtain⟨wo,rfl⟩:∃ wo:World,wo=wr:=⟨wr,rfl⟩
  go_frame
  go_loopw [8] (fun _ wr=>∃ left cnt,Hd (DIn w c.features L Fm wo.heap.size left cnt wr)) (fun _ wr=>wr.rangeLeft (w.heap.size+1) wo.heap.size)
  case atStart=>exact⟨_,cnt0,H0⟩
  clear H0
  obtain⟨left,cnt,HR⟩:=hrel
  have hcell:=HCV.out _ HR.out.v
  go_wp2_with (first
   |(at_next;refine wp_next _ rfl (.tmp 34) rfl Tryz.underlying9 mapElem (fun s=> .map (some (Fm s))) (w.heap.size+1) wo.heap.size L (fun s=> .lit (.int .i64 (Fm s))) (fun s _ v ps h=>mapElem_some h) left cnt rfl HR.out.q ?_ ?_))
  ·intro hd
   have HD:=Hd.mk hd
   clear hd
   go_wp2
   go_ret
   exact⟨L,Fm,rfl,HR.out.done HD.out,HR.out.k⟩
  ·intro s1 w' cnt' hsL hleft hrg1 hlt hg1 hsz1 hen
   obtain⟨f,hf,h1,h2,h3,h4,h5⟩:=HR.out.step hsL hleft hrg1 hg1
   have HC:=Hd.mk (strike_call h1 h2 h3 h4)
   have H5:=Hd.mk h5
   have HL:Hd (w'.rangeLeft (w.heap.size+1) wo.heap.size=cnt'∧wr.rangeLeft (w.heap.size+1) wo.heap.size=cnt):=⟨hrg1.left_eq,HR.out.q.left_eq⟩
   clear hf h1 h2 h4 h5 hrg1 hg1 hcell
   go_wp2_with (first
    |(go_at_call 76;refine HC.out.mono ?_;rintro e w2 ⟨rfl,hs2,hg2⟩;have HE:=Hd.mk (H5.out w2 hs2 hg2);clear hs2 hg2))
   go_roundw
   case rel=>exact⟨_,cnt',HE⟩
   case measure=>rw[HE.out.q.left_eq,HL.out.2];exact hlt
theorem wpList_unguard{P:Program}{ops:Array Oper}{rest:List Oper}{o:Oper}{a:Act}{w:World}{Q:Exit→Act→World→Prop}(hw:Region.wanted o (yielded ops a.tmps)=true)(h:wpList P ops Q (⟨o.dst,o.op,o.type,o.pos,o.after,none⟩::rest) a w):wpList P ops Q (o::rest) a w:=by
 unfold wpList at h ⊢
 rw[if_pos hw]
 rw[if_pos (by simp[Region.wanted])]at h
 exact h
def RowAt(w:World)(lo:Nat)(v:Value)(L:List Str):Prop:=∃ a cap,v= .slice a L.length cap∧L.length≤maxLen∧∀ i (hi:i<L.length),∃ g off,a=some ⟨g,off,none⟩∧g<lo∧w.cell? ⟨g,off+i,none⟩=some (.string L[i])
def Rk(lo:Nat)(w w':World):Prop:=∀ (k:Nat) (cs:Array Value) (t:TypeId) (f:Nat×Nat),k<lo→w.heap[k]? =some (Obj.cells cs t f)→w'.heap[k]? =w.heap[k]?
theorem RowAt.of_names{w:World}{e:TypeId}{l0 lo:Nat}{v:Value}{L:List Str}(h:names w e l0 v L)(hlo:w.heap.size≤lo):RowAt w lo v L:=by
 have hl:=h.len
 obtain⟨a,cap,rfl,h1,h2,h3⟩:=h
 refine⟨a,cap,rfl,hl,fun i hi=> ?_⟩
 obtain⟨g,off,cur,g1,g2,g3,g4,g5⟩:=h3 (by omega)
 have:=(Array.getElem?_eq_some_iff.1 g3).1
 exact⟨g,off,g1,by omega,by rw[cell_at g3];exact g5 i hi⟩
theorem RowAt.to{w w':World}{lo:Nat}{v:Value}{L:List Str}(h:RowAt w lo v L)(hk:Rk lo w w'):RowAt w' lo v L:=by
 obtain⟨a,cap,rfl,hl,h3⟩:=h
 refine⟨a,cap,rfl,hl,fun i hi=> ?_⟩
 obtain⟨g,off,g1,g2,g3⟩:=h3 i hi
 refine⟨g,off,g1,g2,?_⟩
 have hc:∃ cs t f,w.heap[g]? =some (Obj.cells cs t f):=by
  cases hh:w.heap[g]? with
  |none=>simp[World.cell?,hh]at g3
  |some o=>
   cases o with
   |cells cs t f=>exact⟨cs,t,f,rfl⟩
   |_=>simp[World.cell?,hh]at g3
 obtain⟨cs,t,f,hc⟩:=hc
 exact(World.cell?_of_block (a:=⟨g,off+i,none⟩) (hk g cs t f g2 hc)).trans g3
theorem Rk.below{lo:Nat}{w w':World}(h:Below w.heap.size w w'):Rk lo w w':=fun k cs t f _ hc=>h.block k (Array.getElem?_eq_some_iff.1 hc).1
theorem Rk.keep{lo b:Nat}{w w':World}(h:Keep w w' [b])(hb:∀ cs t f,w.heap[b]?≠some (Obj.cells cs t f)):Rk lo w w':=fun k cs t f _ hc=>h.block k (Array.getElem?_eq_some_iff.1 hc).1 (by
 rw[List.mem_singleton];rintro rfl;exact hb _ _ _ hc)
theorem Rk.cellw{lo:Nat}{w w':World}(h:Cellw lo w w'):Rk lo w w':=fun k cs t f hk hc=>h.below k hk (Array.getElem?_eq_some_iff.1 hc).1
theorem not_cells{w:World}{b:Nat}(h:∃ es c,w.heap[b]? =some (.map es c)):∀ cs t f,w.heap[b]?≠some (Obj.cells cs t f):=fun cs t f e=>by
 obtain⟨es,c,h⟩:=h;rw[h]at e;cases e
theorem map_not_iter{w:World}{b r:Nat}(h:∃ es c,w.heap[b]? =some (.map es c))(hr:∃ x y z u,w.heap[r]? =some (.mapIter x y z u)):b≠r:=fun e=>by
 subst e
 obtain⟨es,c,h⟩:=h
 obtain⟨x,y,z,u,hr⟩:=hr
 rw[h]at hr;cases hr
structure OSt(w:World)(fs:List Fea)(bA bd lo:Nat)(vN:Value)(L:List Str)(F:Str→Nat)(out:List Str)(wr:World)(vl:Value):Prop where
 v:names wr 9 lo vl out
 d:SetAt wr bd out
 a:DepsAt wr bA w.heap.size fs L F
 o:OInv (deps fs) (namesF fs) out
 k:Below w.heap.size w wr
 r:RowAt wr lo vN (namesF fs)
 l1:w.heap.size≤bd
 l2:bd<lo
 l3:lo≤wr.heap.size
 n1:bA≠bd
 n2:∀ n∈L,F n≠bd
theorem DepsAt.names{w:World}{b lo:Nat}{fs:List Fea}{L:List Str}{F:Str→Nat}(h:DepsAt w b lo fs L F){S:List Str}(h1:Srt S)(h2:∀ s,s∈S↔s∈L):S=namesF fs:=srt_ext h1 (namesF_srt fs) fun x=>by rw[h2,h.l,namesF_mem]
theorem DepsAt.len{w:World}{b lo:Nat}{fs:List Fea}{L:List Str}{F:Str→Nat}(h:DepsAt w b lo fs L F):L.length≤fs.length:=Nat.le_trans (nodup_le h.m.1 fun n hn=>namesF_mem.2 ((h.l n).1 hn)) (namesF_len fs)
theorem OSt.start{w w1 w2 w4:World}{fs:List Fea}{bA:Nat}{o:Obj}{vN:Value}{L:List Str}{F:Str→Nat}{e:TypeId}{l0:Nat}(hw1:w1=w.alloc o)(ha:DepsAt w2 bA (w.heap.size+1) fs L F)(hb:Below (w.heap.size+1) w1 w2)(hn:names w4 e l0 vN (namesF fs))(h4:Below w2.heap.size w2 w4):
  OSt w fs bA w4.heap.size (w4.heap.size+1) vN L F [] (w4.alloc (.map #[] 0)) (.slice none 0 0):=by
 subst hw1
 have e1:(w.alloc o).heap.size=w.heap.size+1:=by simp
 have l1:=hb.size
 rw[e1]at l1
 have l2:=h4.size
 have hb0:Below w.heap.size w w2:=below_alloc hb
 have hk:Keep w4 (w4.alloc (.map #[] 0)) []:=(Keep.refl w4 []).alloc _
 have ha4:=ha.below h4
 have lt:=ha4.m.lt
 refine⟨⟨none,0,rfl,by simp,by simp,fun h=>absurd h (by omega)⟩,set_made w4 _ _ _,⟨(ha4.keep hk (by simp) (by simp)).m,ha4.l,(ha4.keep hk (by simp) (by simp)).s,fun n hn=>by have:=ha4.g n hn;omega⟩,OInv.start _ _,(hb0.trans (c_less h4 (by omega))).trans (hk.below (by omega) (by simp)),?_,by omega,by omega,by simp,by omega,fun n hn=> ?_⟩
 ·exact(RowAt.of_names (hn.alloc _) (by simp))
 ·obtain⟨D,hD,_⟩:=ha4.s n hn
  have:=hD.lt;omega
theorem OSt.below{w:World}{fs:List Fea}{bA bd lo:Nat}{vN:Value}{L:List Str}{F:Str→Nat}{out:List Str}{wr w':World}{vl:Value}(h:OSt w fs bA bd lo vN L F out wr vl)(hb:Below wr.heap.size wr w'):OSt w fs bA bd lo vN L F out w' vl:=
 ⟨names_below h.v hb,set_below h.d hb,h.a.below hb,h.o,h.k.trans (c_less hb h.k.size),h.r.to (.below hb),h.l1,h.l2,Nat.le_trans h.l3 hb.size,h.n1,h.n2⟩
theorem OSt.iter{w:World}{fs:List Fea}{bA bd lo:Nat}{vN:Value}{L:List Str}{F:Str→Nat}{out:List Str}{wr w':World}{vl:Value}{r:Nat}(h:OSt w fs bA bd lo vN L F out wr vl)(hit:∃ x y z u,wr.heap[r]? =some (.mapIter x y z u))(hr:lo≤r)(hg:wr.grownBy w' (some r)):OSt w fs bA bd lo vN L F out w' vl:=by
 have hk:=Keep.of_grown hg
 have hc:∀ cs t f,wr.heap[r]?≠some (Obj.cells cs t f):=fun cs t f e=>by obtain⟨x,y,z,u,hit⟩:=hit;rw[hit]at e;cases e
 have l1:=h.l1
 have l2:=h.l2
 have l3:=h.l3
 refine⟨h.v.grown hg hc,set_keep h.d hk (by simpa using map_not_iter h.d.isMap hit),h.a.keep hk (by simpa using map_not_iter h.a.m.isMap hit) (fun n hn=> ?_),h.o,h.k.trans (hk.below h.k.size (by simp;omega)),h.r.to (.keep hk hc),h.l1,h.l2,Nat.le_trans h.l3 hg.size,h.n1,h.n2⟩
 obtain⟨D,hD,_⟩:=h.a.s n hn
 simpa using map_not_iter hD.isMap hit
theorem OSt.mid{w:World}{fs:List Fea}{bA bd lo:Nat}{vN:Value}{L:List Str}{F:Str→Nat}{out:List Str}{wr w2:World}{vl:Value}(h:OSt w fs bA bd lo vN L F out wr vl)(hg:wr.grownBy w2 (some bd))(o:Obj):names (w2.alloc o) 9 lo vl out∧lo≤(w2.alloc o).heap.size:=by
 have:=h.l3
 have:=hg.size
 exact⟨(h.v.grown hg (not_cells h.d.isMap)).alloc o,by simp;omega⟩
theorem OSt.put{w:World}{fs:List Fea}{bA bd lo:Nat}{vN:Value}{L:List Str}{F:Str→Nat}{out:List Str}{wr w2 w3:World}{vl vl':Value}{s:Str}(h:OSt w fs bA bd lo vN L F out wr vl)(hn:ordNext (deps fs) (namesF fs) out=some s)(hs:SetAt w2 bd (ins out s))(hg:wr.grownBy w2 (some bd))(o:Obj)(hv:names w3 9 lo vl' (out++[s]))(hc:Cellw lo (w2.alloc o) w3):
  OSt w fs bA bd lo vN L F (out++[s]) w3 vl':=by
 have hk:=Keep.of_grown hg
 have l1:=h.l1
 have l2:=h.l2
 have l3:=h.l3
 have lw:=h.k.size
 have sz:=hg.size
 have hno:s∉out:=(ready_iff.1 (List.find?_some hn)).1
 have e1:ins out s=out++[s]:=by unfold ins;rw[if_neg hno]
 have ha:DepsAt w2 bA w.heap.size fs L F:=h.a.keep hk (by simpa using h.n1) (fun n hn=>by simpa using h.n2 n hn)
 have ha2:DepsAt (w2.alloc o) bA w.heap.size fs L F:=ha.keep ((Keep.refl w2 []).alloc o) (by simp) (by simp)
 have b2:Below w.heap.size wr w2:=hk.below lw (by simp;omega)
 have b3:Below w.heap.size w2 (w2.alloc o):=⟨rfl,rfl,rfl,by simp,fun k hk=>heap_alloc_old w2 o (by omega)⟩
 have b4:Below w.heap.size (w2.alloc o) w3:=⟨hc.os,hc.tape,hc.output,hc.size,fun k hk=>hc.below k (by omega) (by simp;omega)⟩
 refine⟨hv,?_,⟨ha2.m.cellw hc,ha2.l,fun n hn=> ?_,ha2.g⟩,(h.o.step hn).1,((h.k.trans b2).trans b3).trans b4,?_,h.l1,h.l2,?_,h.n1,h.n2⟩
 ·rw[← e1];exact(tbl.alloc hs o).cellw hc
 ·obtain⟨D,h1,h2⟩:=ha2.s n hn
  exact⟨D,h1.cellw hc,h2⟩
 ·exact((h.r.to (.keep hk (not_cells h.d.isMap))).to (.below (((Keep.refl w2 []).alloc o).below (Nat.le_refl _) (by simp)))).to (.cellw hc)
 ·have:=hc.size;simp at this;omega
structure OIt(w:World)(fs:List Fea)(bA bd lo:Nat)(vN:Value)(L:List Str)(F:Str→Nat)(out:List Str)(s:Str)(D:List Str)(r:Nat)(left:Str→Prop)(cnt:Nat)(b:Bool)(wr:World)(vl:Value):Prop where
 o:OSt w fs bA bd lo vN L F out wr vl
 q:rng wr Tryz.prog 9 (plainElem Tryz.prog 4) (F s) r D (fun _=>tt) left cnt
 b:b=true↔s∉out∧∀ m∈D,¬left m→m∈out
 r:lo≤r
theorem OIt.start{w:World}{fs:List Fea}{bA bd lo:Nat}{vN:Value}{L:List Str}{F:Str→Nat}{out:List Str}{s:Str}{D:List Str}{cnt:Nat}{wr w':World}{vl:Value}(h:OSt w fs bA bd lo vN L F out wr vl)(hr:rng w' Tryz.prog 9 (plainElem Tryz.prog 4) (F s) wr.heap.size D (fun _=>tt) (·∈D) cnt)(hg:wr.grownBy w' none):
  OIt w fs bA bd lo vN L F out s D wr.heap.size (·∈D) cnt (!decide (s∈out)) w' vl:=
 ⟨h.below ((Keep.of_none hg []).below (Nat.le_refl _) (by simp)),hr,by
  rw[Bool.not_eq_true',decide_eq_false_iff_not]
  exact⟨fun h1=>⟨h1,fun m hm hn=>absurd hm hn⟩,fun h1=>h1.1⟩,h.l3⟩
theorem OIt.next{w:World}{fs:List Fea}{bA bd lo:Nat}{vN:Value}{L:List Str}{F:Str→Nat}{out:List Str}{s:Str}{D:List Str}{r:Nat}{left:Str→Prop}{cnt cnt':Nat}{b:Bool}{wr w':World}{vl:Value}{m:Str}(h:OIt w fs bA bd lo vN L F out s D r left cnt b wr vl)(hm:m∈D)
  (hr:rng w' Tryz.prog 9 (plainElem Tryz.prog 4) (F s) r D (fun _=>tt) (fun x=>left x∧x≠m) cnt') (hg:wr.grownBy w' (some r)):OIt w fs bA bd lo vN L F out s D r (fun x=>left x∧x≠m) cnt' (b && decide (m∈out)) w' vl∨¬left m:=by
 by_cases hl:left m
 ·refine .inl ⟨h.o.iter h.q.iter h.r hg,hr,?_,h.r⟩
  rw[Bool.and_eq_true,h.b,decide_eq_true_eq]
  constructor
  ·rintro⟨⟨h1,h2⟩,h3⟩
   refine⟨h1,fun x hx hn=> ?_⟩
   by_cases e:x=m
   ·rw[e];exact h3
   ·exact h2 x hx fun h'=>hn ⟨h',e⟩
  ·rintro⟨h1,h2⟩
   exact⟨⟨h1,fun x hx hn=>h2 x hx fun h'=>hn h'.1⟩,h2 m hm fun h'=>h'.2 rfl⟩
 ·exact .inr hl
theorem OIt.done{w:World}{fs:List Fea}{bA bd lo:Nat}{vN:Value}{L:List Str}{F:Str→Nat}{out:List Str}{s:Str}{D:List Str}{r:Nat}{left:Str→Prop}{cnt:Nat}{b:Bool}{wr:World}{vl:Value}(h:OIt w fs bA bd lo vN L F out s D r left cnt b wr vl)(hd:∀ s:Str,s.size≤maxLen→¬left s)(hD:∀ m,m∈D↔m∈deps fs s):b=ready (deps fs) out s:=by
 rw[Bool.eq_iff_iff,h.b,ready_iff]
 constructor
 ·rintro⟨h1,h2⟩;exact⟨h1,fun m hm=>h2 m ((hD m).2 hm) (hd m (h.q.2.1 m ((hD m).2 hm)))⟩
 ·rintro⟨h1,h2⟩;exact⟨h1,fun m hm _=>h2 m ((hD m).1 hm)⟩
theorem ordNext_at{g:Str→List Str}{N out:List Str}{k:Nat}(hk:k<N.length)(hp:∀ j (hj:j<N.length),j<k→ready g out N[j]=false)(h:ready g out N[k]=true):ordNext g N out=some N[k]:=by
 unfold ordNext
 rw[List.find?_eq_some_iff_getElem]
 exact⟨h,k,hk,rfl,fun j hj=>by simpa using hp j (Nat.lt_trans hj hk) hj⟩
theorem ordNext_no{g:Str→List Str}{N out:List Str}(hp:∀ j (hj:j<N.length),ready g out N[j]=false):ordNext g N out=none:=by
 unfold ordNext
 rw[List.find?_eq_none]
 intro x hx
 obtain⟨j,hj,rfl⟩:=List.getElem_of_mem hx
 simpa using hp j hj
end Go.Proofs.YtekngilbecjkhaaGreatDoor
