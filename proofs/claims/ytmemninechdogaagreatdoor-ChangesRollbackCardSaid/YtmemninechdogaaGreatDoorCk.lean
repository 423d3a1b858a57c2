import Derived.Test.YtmemninechdogaaGreatDoorCi
set_option linter.all false
namespace Go.Proofs.YtmemninechdogaaGreatDoor
open _root_.Go.Proofs.Tryz
open Go.RowKit Go.Proofs Go.Tb Go.Maps
open Go.Sx (AV Mem RL R M0 Glob)
theorem Oo{p:Type}[Inhabited p]{l:List p}{i:Nat}(h:i<l.length):l.getD i default∈l:=by grind
structure wT(fs:List aj):Prop where
 f:∀f∈fs,f.body.bH.length<=274877906944/\f.body.dz.length<=274877906944/\(∀s∈f.body.bH,s.size<=maxLen)/\∀s∈f.body.dz,s.size<=maxLen
 n:∀f∈fs,f.name.size<=maxLen
 l:fs.length<=274877906944
theorem ahG{w w':World}{b:Nat}{L:List ae}{f:ae->Nat}(h:qN w b L f)(hb:Below w.heap.size w w'):qN w' b L f:=Rq h (bz.EA hb []) (by simp)
theorem aj.parts{M:Mem}{f:aj}{C:Array Value}(h:RL M f.cells C.toList):C.size=18/\C.all (·.oneCell')=true/\C[0]? =some (.string f.name):=by
 refine⟨?_,by rw[<-Yp];exact h.ov rfl,?_⟩
 .have h1:=h.1;have h2:f.cells.length=18:=rfl;grind
 .obtain⟨v,h1,h2⟩:=h.get (i:=0) (x:=sv f.name) rfl;rw[h2.aC]at h1;grind
theorem ay.bH{M:Mem}{c:ay}{C:Array Value}(h:RL M c.cells C.toList):∃v0 v2 v3 a cap,C= #[v0,.slice a c.features.length cap,v2,v3]/\c.features.length<=maxLen/\
  ∀i (hi:i<c.features.length),∃bb off,a=some ⟨bb,off,none⟩/\∃F:Array Value,RL M (c.features.getD i default).cells F.toList/\F.toList.length=18/\∀j (hj:j<F.toList.length),M bb (off+i*18+j)=some F.toList[j]:=by
 obtain⟨v0,l0,e0,h0,h⟩:=h.aZ;obtain⟨v1,l1,rfl,h1,h⟩:=h.aZ;obtain⟨v2,l2,rfl,h2,h⟩:=h.aZ;obtain⟨v3,l3,rfl,h3,h⟩:=h.aZ;obtain rfl:=h.qD;have hlen:=Tv h1;rw[Z5]at hlen;obtain⟨a,cap,rfl,hA⟩:=uT h1;refine⟨v0,v2,v3,a,cap,?_,hlen,fun i hi=>?_⟩
 .grind
 .obtain⟨bb,off,e,cs',g1,g2,g3⟩:=hA i (by grind);refine⟨bb,off,e,cs'.toArray,?_,by grind,fun j hj=>by grind⟩;grind
structure iF(w:World)(fs:List aj)(i:Nat)(L:List ae)(F:ae->Nat)(wr:World):Prop where
 m:qN wr (w.heap.size+1) L F
 l:∀n,n∈L↔∃j,j<i/\(fs.getD j default).name=n
 s:∀n∈L,∃f,findF fs n=some f/\cz wr (F n) (eQ [] f.body.bH)
 inj:∀a∈L,∀b∈L,F a=F b->a=b
 g:∀n∈L,w.heap.size+2<F n
 k:Below w.heap.size w wr
 v:wr.heap[w.heap.size+2]? =some (.cells #[.map (some (w.heap.size+1))] 204 (0,0))
theorem iF.start(w:World)(o:Obj)(fs:List aj)(F:ae->Nat):iF w fs 0 [] F (((w.alloc o).alloc (.map #[] 0)).alloc (.cells #[.map (some (w.heap.size+1))] 204)):=by have h1:=TW (w.alloc o) prog 9 mapElem (fun s=>.lit (.int .i64 (F s)));rw[show(w.alloc o).heap.size=w.heap.size+1 by simp]at h1;have h2:=heap_alloc_new ((w.alloc o).alloc (.map #[] 0)) (.cells #[.map (some (w.heap.size+1))] 204);rw[show((w.alloc o).alloc (.map #[] 0)).heap.size=w.heap.size+2 by simp]at h2;exact⟨h1.alloc _,fun n=>⟨fun h=>(by cases h),fun⟨j,hj,_⟩=>absurd hj (by omega)⟩,fun n h=>(by cases h),fun a h=>(by cases h),fun a h=>(by cases h),((((bz.refl w []).alloc _).alloc _).alloc _).below (ZO _) (by simp),h2⟩
theorem iF.to{w:World}{fs:List aj}{i:Nat}{L:List ae}{F:ae->Nat}{wr w':World}(h:iF w fs i L F wr)(hb:Below wr.heap.size wr w'):iF w fs i L F w':=
 ⟨ahG h.m hb,h.l,fun n hn=>by obtain⟨f,h1,h2⟩:=h.s n hn;exact⟨f,h1,KV h2 hb⟩,h.inj,h.g,h.k.trans (xe hb h.k.size),by rw[hb.block _ (ZW.1 h.v).1];exact h.v⟩
theorem iF.skip{w:World}{fs:List aj}{i:Nat}{L:List ae}{F:ae->Nat}{wr:World}(h:iF w fs i L F wr)(hm:(fs.getD i default).name∈L):iF w fs (i+1) L F wr:=
 ⟨h.m,fun n=>by
  rw[h.l];constructor
  .grind
  .rintro⟨j,hj,e⟩;rcases X3 (XM hj)with h1|rfl
   .grind
   .rw[e]at hm;exact(h.l n).1 hm,h.s,h.inj,h.g,h.k,h.v⟩
theorem Oa{fs:List aj}{n:ae}{i:Nat}(hi:i<fs.length)(hn:(fs.getD i default).name=n)(hp:∀j,j<i->(fs.getD j default).name≠n):findF fs n=some (fs.getD i default):=by unfold findF;rw[show fs.getD i default=fs[i] by grind]at hn|-;rw[Ya];grind
theorem iF.put{w:World}{fs:List aj}{i:Nat}{L:List ae}{F:ae->Nat}{wr w':World}{b:Nat}(h:iF w fs i L F wr)(hi:i<fs.length)(hm:(fs.getD i default).name∉L)(hs:cz wr b (eQ [] (fs.getD i default).body.bH))(hb:w.heap.size+2<b)(IC:∀n∈L,F n≠b)
  (hw:qN w' (w.heap.size+1) (ins L (fs.getD i default).name) (fun x=>if x=(fs.getD i default).name then b else F x)) (hg:wr.grownBy w' (some (w.heap.size+1))):iF w fs (i+1) (ins L (fs.getD i default).name) (fun x=>if x=(fs.getD i default).name then b else F x) w':=by
 have hk:=bz.lu hg;refine⟨hw,fun n=>?_,fun n hn=>?_,fun x hx y hy e=>?_,fun n hn=>?_,h.k.trans (hk.below h.k.size (by simp)),?_⟩
 .rw[qm,h.l];grind
 .by_cases e:n=(fs.getD i default).name
  .refine⟨fs.getD i default,Oa hi e.symm (fun j hj e'=>hm ((h.l _).2 ⟨j,hj,e'.trans e⟩)),?_⟩;rw[Z3 e];exact iC hs hk (by grind)
  .have nI:n∈L:=by
    rcases qm.1 hn with h1|h1
    .grind
    grind
   obtain⟨f,h1,h2⟩:=h.s n nI;have:=h.g n nI;refine⟨f,h1,?_⟩;rw[Z9 e];exact iC h2 hk (by grind)
 .have tR:=qm.1 hx;have PX:=qm.1 hy;by_cases e1:x=(fs.getD i default).name<;>by_cases e2:y=(fs.getD i default).name
  .rw[e1,e2]
  .rw[Z3 e1,Z9 e2]at e;exact absurd e.symm (IC y (PX.resolve_left e2))
  .rw[Z9 e1,Z3 e2]at e;exact absurd e (IC x (tR.resolve_left e1))
  .rw[Z9 e1,Z9 e2]at e;exact h.inj x (tR.resolve_left e1) y (PX.resolve_left e2) e
 .show _<if n=_ then b else F n
  split
  .exact hb
  .rename_i e;exact h.g n ((qm.1 hn).resolve_left e)
 .rw[hk.block _ (ZW.1 h.v).1 (by simp)];exact h.v
theorem iF.len{w:World}{fs:List aj}{i:Nat}{L:List ae}{F:ae->Nat}{wr:World}(h:iF w fs i L F wr):L.length<=i:=by
 have h1:=jh (a:=L) (b:=(List.range i).map fun j=>(fs.getD j default).name) h.m.1 fun n hn=>by obtain⟨j,hj,e⟩:=(h.l n).1 hn;grind
 grind
theorem iF.new{w:World}{fs:List aj}{i:Nat}{L:List ae}{F:ae->Nat}{wr:World}(h:iF w fs i L F wr):w.heap.size+2<wr.heap.size/\∀n∈L,F n<wr.heap.size:=
 ⟨(ZW.1 h.v).1,fun n hn=>by obtain⟨f,_,h2⟩:=h.s n hn;exact h2.lt⟩
theorem abA{f:aj}{fs:List aj}(hF:wT fs)(hf:f∈fs){wr w2:World}{M:Mem}{Cf:Array Value}(hI:Sx.Inv prog M ⟨wr,M⟩ [] wr)(fO:Below wr.heap.size wr w2)(fy:w2.heap.size=wr.heap.size+1)(dV:w2.heap[wr.heap.size]? =some (.cells Cf 37 (0,0)))(xU:RL M f.cells Cf.toList):
  Calls prog 187 #[.agg ((Cf.toList.drop 5).take 12).toArray,.map (some (wr.heap.size+1)),.map (some (wr.heap.size+2))] ((w2.alloc (.map #[] 0)).alloc (.map #[] 0)) fun e w3=>(∃v,e= .returned v)/\cz w3 (wr.heap.size+1) (eQ [] f.body.bH)/\
   Below wr.heap.size wr w3/\w3.heap[wr.heap.size]? =some (.cells Cf 37 (0,0)):=by
 have dC:Below wr.heap.size wr ((w2.alloc (.map #[] 0)).alloc (.map #[] 0)):=(fO.alloc (by omega) _).alloc (by simp;omega) _;have h1:cz ((w2.alloc (.map #[] 0)).alloc (.map #[] 0)) (wr.heap.size+1) []:=by have:=E7 w2 prog 9 4;rw[fy]at this;exact this.alloc _
 have h2:cz ((w2.alloc (.map #[] 0)).alloc (.map #[] 0)) (wr.heap.size+2) []:=by have:=E7 (w2.alloc (.map #[] 0)) prog 9 4;simp_all
 obtain⟨l1,l2,l3,l4⟩:=hF.f f hf;have bl:((w2.alloc (.map #[] 0)).alloc (.map #[] 0)).heap.size=wr.heap.size+3:=by simp_all
 refine(Ns f.body.size f.body (ZO _) M _ (GI hI dC) ((Cf.toList.drop 5).take 12).toArray (by simpa using aaI xU) (wr.heap.size+1) (wr.heap.size+2) [] [] h1 h2 (by omega) (by grind) (by grind) l3 l4).mono fun e w3 ⟨g1,g2,g3,g4⟩=>⟨g1,g2,?_,?_⟩
 .exact dC.trans (g4.below (by omega) (by simp))
 .rw[g4.block _ (by omega) (by simp),heap_alloc_old _ _ (by simp;omega),heap_alloc_old _ _ (by omega)];grind
structure qJ(w:World)(fs:List aj)(L:List ae)(F:ae->Nat)(r:Nat)(left:ae->Prop)(bG:Nat)(wr:World):Prop where
 q:fW wr prog 9 mapElem (w.heap.size+1) r L (fun s=>.lit (.int .i64 (F s))) left bG
 l:∀n,n∈L↔nL fs n=true
 s:∀n∈L,∃f,findF fs n=some f/\(left n->cz wr (F n) (eQ [] f.body.bH))/\(¬left n->cz wr (F n) ((eQ [] f.body.bH).filter fun s=>decide (s∈L)))
 inj:∀a∈L,∀b∈L,F a=F b->a=b
 g:∀n∈L,w.heap.size+2<F n
 k:Below w.heap.size w wr
 v:wr.heap[w.heap.size+2]? =some (.cells #[.map (some (w.heap.size+1))] 204 (0,0))
 rr:w.heap.size+2<r
theorem qJ.start{w:World}{fs:List aj}{L:List ae}{F:ae->Nat}{wr w':World}{bG:Nat}(h:iF w fs fs.length L F wr)(hr:fW w' prog 9 mapElem (w.heap.size+1) wr.heap.size L (fun s=>.lit (.int .i64 (F s))) (·∈L) bG)(hg:wr.grownBy w' none):qJ w fs L F wr.heap.size (·∈L) bG w':=by
 have hk:=bz.EB hg [];have lt:=(ZW.1 h.v).1;refine⟨hr,fun n=>?_,fun n hn=>?_,h.inj,h.g,h.k.trans (hk.below h.k.size (by simp)),by rw[hk.block _ lt (by simp)];exact h.v,lt⟩
 .rw[h.l,P5];constructor
  .grind
  .rintro⟨f,hf,e⟩;obtain⟨j,hj,rfl⟩:=Zc hf;exact⟨j,hj,by grind⟩
 .obtain⟨f,h1,h2⟩:=h.s n hn;exact⟨f,h1,fun _=>iC h2 hk (by simp),fun hl=>absurd hn hl⟩
theorem qJ.step{w:World}{fs:List aj}{L:List ae}{F:ae->Nat}{r:Nat}{left:ae->Prop}{bG ja:Nat}{wr w':World}{s:ae}(h:qJ w fs L F r left bG wr)(hsL:s∈L)(hl:left s)(hr:fW w' prog 9 mapElem (w.heap.size+1) r L (fun s=>.lit (.int .i64 (F s))) (fun x=>left x/\x≠s) ja)(hg:wr.grownBy w' (some r)):
  ∃f,findF fs s=some f/\cz w' (F s) (eQ [] f.body.bH)/\qN w' (w.heap.size+1) L F/\w'.cell? ⟨w.heap.size+2,0,none⟩=some (.map (some (w.heap.size+1)))/\F s≠w.heap.size+1/\
   ∀w2,cz w2 (F s) ((eQ [] f.body.bH).filter fun s=>decide (s∈L))->w'.grownBy w2 (some (F s))->qJ w fs L F r (fun x=>left x/\x≠s) ja w2:=by
 have hk:=bz.lu hg;have rr:=h.rr;obtain⟨f,h1,h2,_⟩:=h.s s hsL;have gs:=h.g s hsL;obtain⟨x,y,z,u,hit⟩:=h.q.iter;have ne:∀n∈L,F n≠r:=fun n hn e=>by
  obtain⟨f',_,h3,h4⟩:=h.s n hn;have:∃D,cz wr (F n) D:=by grind
  obtain⟨D,hD⟩:=this;obtain⟨es,c,hm⟩:=hD.isMap;grind
 have hv:w'.heap[w.heap.size+2]? =some (.cells #[.map (some (w.heap.size+1))] 204 (0,0)):=by rw[hk.block _ (ZW.1 h.v).1 (by grind)];exact h.v
 refine⟨f,h1,iC (h2 hl) hk (by grind),hr.dt,by simp[World.cell?,hv],by omega,fun w2 fy kL=>?_⟩;have fO:=bz.lu kL;refine⟨hr.kept kL (by grind) (by grind),h.l,fun n hn=>?_,h.inj,h.g,(h.k.trans (hk.below h.k.size (by grind))).trans (fO.below (by grind) (by grind)),by rw[fO.block _ (ZW.1 hv).1 (by grind)];grind,rr⟩;obtain⟨f',g1,g2,g3⟩:=h.s n hn;by_cases e:n=s
 .grind
 .have aW:F n≠F s:=fun e'=>e (h.inj n hn s hsL e');refine⟨f',g1,fun hl=>?_,fun hl=>?_⟩
  .exact iC (iC (g2 hl.1) hk (by simpa using ne n hn)) fO (by simpa using aW)
  .exact iC (iC (g3 fun h'=>hl ⟨h',e⟩) hk (by simpa using ne n hn)) fO (by simpa using aW)
structure iG(w:World)(b lo:Nat)(fs:List aj)(L:List ae)(F:ae->Nat):Prop where
 m:qN w b L F
 l:∀n,n∈L↔nL fs n=true
 s:∀n∈L,∃D,cz w (F n) D/\∀m,m∈D↔m∈deps fs n
 g:∀n∈L,lo<=F n
theorem qJ.done{w:World}{fs:List aj}{L:List ae}{F:ae->Nat}{r:Nat}{left:ae->Prop}{bG:Nat}{wr:World}(h:qJ w fs L F r left bG wr)(hd:∀s:ae,s.size<=maxLen->¬left s):iG wr (w.heap.size+1) w.heap.size fs L F:=by refine⟨h.q.dt,h.l,fun n hn=>?_,fun n hn=>by have:=h.g n hn;omega⟩;obtain⟨f,h1,_,h3⟩:=h.s n hn;refine⟨_,h3 (hd n (h.q.2.1 n hn)),fun m=>?_⟩;rw[Y6,A2,M9];simp only[ZQ,h.l];grind
theorem iG.aH{w w':World}{b lo:Nat}{fs:List aj}{L:List ae}{F:ae->Nat}{l:List Nat}(h:iG w b lo fs L F)(hk:bz w w' l)(hb:b∉l)(hl:∀n∈L,F n∉l):iG w' b lo fs L F:=
 ⟨Rq h.m hk hb,h.l,fun n hn=>by obtain⟨D,h1,h2⟩:=h.s n hn;exact⟨D,iC h1 hk (hl n hn),h2⟩,h.g⟩
theorem iG.below{w w':World}{b lo:Nat}{fs:List aj}{L:List ae}{F:ae->Nat}(h:iG w b lo fs L F)(hb:Below w.heap.size w w'):iG w' b lo fs L F:=h.aH (bz.EA hb []) (by simp) (by simp)
set_option maxHeartbeats 4000000 in
set_option maxRecDepth 1000000 in
theorem abD(c:ay)(hF:wT c.features){M:Mem}{w:World}(hI:Sx.Inv prog M ⟨w,M⟩ [] w){Cc:Array Value}(hC:RL M c.cells Cc.toList):
  Calls prog 136 #[.agg Cc] w fun e W'=>∃L Fm,e= .returned (.map (some (w.heap.size+1)))/\iG W' (w.heap.size+1) w.heap.size c.features L Fm/\Below w.heap.size w W':=by
 obtain⟨v0,v2,v3,aF,cF,rfl,hlen,OQ⟩:=ay.bH hC;have iQ:∀(w:World) (r:Option Nat),(binOp .eql 210 (.map r) (.map none)).run prog w= .ok (.bool r.isNone) w:=fun w r=>run_eql_map_nil w _ _ _ r underlying210;have Pw:=@run_makeMap prog;have HI:=Hd.mk hI;have HF:=Hd.mk hF;have U4:=Hd.mk OQ;have qb:c.features.length<=9223372036854775807:=hlen;have Pz:maxLen=9223372036854775807:=rfl;clear hI hF OQ hlen hC;have Pg:∀(wr:World),wr.heap[w.heap.size+2]? =some (.cells #[.map (some (w.heap.size+1))] 204 (0,0))->wr.cell? ⟨w.heap.size+2,0,none⟩=some (.map (some (w.heap.size+1))):=fun wr h=>by simp[World.cell?,h]
 have zc:=Hd.mk Pg;clear Pg
 go_enter func136,ntmps136
 go_wp2
 go_loopw [13] (fun i wr=>∃(k:Nat) (L:List ae) (Fm:ae->Nat),i= .int .i64 k/\k<=c.features.length/\Hd (iF w c.features k L Fm wr)) (fun i _=>c.features.length-(intOf i).toNat)
 case atStart=>exact⟨0,[],fun _=>0,rfl,Z4 _,⟨iF.start w _ c.features _⟩⟩
 obtain⟨k,L,Fm,rfl,hk,HS⟩:=hrel;have AN:=zc.out _ HS.out.v;by_cases az:k<c.features.length
 .obtain⟨bb,off,rfl,Cf,xU,hl,hM⟩:=U4.out k az;obtain⟨f,hf⟩:∃f,f=c.features.getD k default:=⟨_,rfl⟩
  rw[<-hf]at xU;obtain⟨iz,PB,qc⟩:=aj.parts xU;have xY:Hd (Sx.iH prog 37=some (true,Cf.toList.length)):=⟨by rw[hl];kernel_rfl⟩
  have W7:Hd (Sx.iH prog 35=some (true,((Cf.toList.drop 5).take 12).toArray.toList.length)):=⟨by rw[aaK iz];kernel_rfl⟩
  have Jz:(prog.info? 37).map (·.size)=some Cf.size:=(by rw[iz];kernel_rfl)
  have LW:=Hd.mk (GI HI.out HS.out.k);have HM:Hd (∀j (hj:j<Cf.toList.length),wr.cell? ⟨bb,off+k*18+j,none⟩=some Cf.toList[j]):=⟨fun j hj=>LW.out.bZ _ _ _ (hM j hj)⟩
  have ya:f.name.size<=maxLen:=HF.out.n f (hf ▸ Oo az);have HR:=Hd.mk xU;have HN:=Hd.mk qc;have Hf:=Hd.mk hf;clear hM hl xU qc hf;by_cases dy:f.name∈L
  .go_wp2_with (first
    |(show wpList _ _ _ (⟨some 16,_,_,_,_,_⟩::_) _ _;refine zx rfl 37 (.tmp 15) rfl bb (off+k*18) rfl Cf HM.out xY.out ?_)
    |(show wpList _ _ _ (⟨none,.store _ _ _,_,_,_,_⟩::_) _ _;refine wpList_store_row rfl 37 (.tmp 5) (.tmp 16) rfl wr.heap.size Cf rfl rfl 37 _ (heap_alloc_new _ _) Jz iz.symm PB ?_;generalize mU:(World.setRow (World.alloc wr _) wr.heap.size Cf)=w2;have fO:Below wr.heap.size wr w2:=mU ▸ MC _ _ _;have dV:w2.heap[wr.heap.size]? =some (.cells Cf 37 (0,0)):=mU ▸ setRow_heap _ _ _ _ _ _ (heap_alloc_new _ _);have fy:w2.heap.size=wr.heap.size+1:=mU ▸ (by simp[World.setRow]);have jH:w2.cell? ⟨wr.heap.size,0,none⟩=some (.string f.name):=(pO dV).trans HN.out;have wW:=Hd.mk (HS.out.to fO);have bO:=zc.out _ wW.out.v;clear mU dV)
    |(at_lookup;refine BT _ rfl _ _ 204 rfl underlying9 underlying204 (zeroValue210 _) (w.heap.size+1) L Fm rfl wW.out.m f.name rfl ya ?_;rw[Z3 dy]))
   go_roundw
   case rel=>exact⟨k+1,L,Fm,by go_num,az,⟨wW.out.skip (Hf.out ▸ dy)⟩⟩
   case measure=>simp[intOf];omega
  .go_wp2_with (first
    |(show wpList _ _ _ (⟨some 16,_,_,_,_,_⟩::_) _ _;refine zx rfl 37 (.tmp 15) rfl bb (off+k*18) rfl Cf HM.out xY.out ?_)
    |(show wpList _ _ _ (⟨none,.store _ _ _,_,_,_,_⟩::_) _ _;refine wpList_store_row rfl 37 (.tmp 5) (.tmp 16) rfl wr.heap.size Cf rfl rfl 37 _ (heap_alloc_new _ _) Jz iz.symm PB ?_;generalize mU:(World.setRow (World.alloc wr _) wr.heap.size Cf)=w2;have fO:Below wr.heap.size wr w2:=mU ▸ MC _ _ _;have dV:w2.heap[wr.heap.size]? =some (.cells Cf 37 (0,0)):=mU ▸ setRow_heap _ _ _ _ _ _ (heap_alloc_new _ _);have fy:w2.heap.size=wr.heap.size+1:=mU ▸ (by simp[World.setRow]);have jH:w2.cell? ⟨wr.heap.size,0,none⟩=some (.string f.name):=(pO dV).trans HN.out;have wW:=Hd.mk (HS.out.to fO);have bO:=zc.out _ wW.out.v;have LY:=Hd.mk dV;clear mU dV)
    |(at_lookup;refine BT _ rfl _ _ 204 rfl underlying9 underlying204 (zeroValue210 _) (w.heap.size+1) L Fm rfl wW.out.m f.name rfl ya ?_;rw[Z9 dy])
    |(show wpList _ _ _ (⟨some 24,_,_,_,_,_⟩::_) _ _;refine zx rfl 35 (.tmp 23) rfl wr.heap.size 5 rfl ((Cf.toList.drop 5).take 12).toArray (aaJ _ LY.out iz) W7.out ?_)
    |(go_at_call 187;refine(abA HF.out (Hf.out ▸ Oo az) LW.out fO fy LY.out HR.out).mono ?_;rintro e w3 ⟨⟨v3',rfl⟩,AP,vx,kQ⟩;have hn3:w3.cell? ⟨wr.heap.size,0,none⟩=some (.string f.name):=(pO kQ).trans HN.out;have F9:=Hd.mk (HS.out.to vx);have DA:=zc.out _ F9.out.v;have H3:=Hd.mk (And.intro AP vx);clear AP vx kQ)
    |(at_mapUpdate;refine amr _ rfl _ _ _ 204 rfl underlying9 underlying204 (w.heap.size+1) L Fm rfl F9.out.m (by have:=HS.out.len;omega) f.name rfl ya (wr.heap.size+1) rfl ?_;intro w4 aec An))
   have HE:iF w c.features (k+1) (ins L f.name) (fun x=>if x=f.name then wr.heap.size+1 else Fm x) w4:=by obtain⟨n1,n2⟩:=HS.out.new;have hf:=Hf.out;subst hf;exact F9.out.put az dy H3.out.1 (by omega) (fun n hn=>by have:=n2 n hn;omega) aec An
   go_roundw
   case rel=>exact⟨k+1,_,_,by go_num,az,⟨HE⟩⟩
   case measure=>simp[intOf];omega
 .obtain rfl:k=c.features.length:=by omega
  go_wp2_with (at_range;refine ams _ rfl _ 204 rfl underlying9 210 underlying204 mapElem (w.heap.size+1) L (fun s=>.lit (.int .i64 (Fm s))) rfl HS.out.m ?_;intro w4r abd DU DK aeh)
  have H0:=Hd.mk (qJ.start HS.out DU DK);clear DU DK aeh AN;obtain⟨wo,rfl⟩:∃wo:World,wo=wr:=⟨wr,rfl⟩
  go_frame
  go_loopw [8] (fun _ wr=>∃left bG,Hd (qJ w c.features L Fm wo.heap.size left bG wr)) (fun _ wr=>wr.rangeLeft (w.heap.size+1) wo.heap.size)
  case atStart=>exact⟨_,abd,H0⟩
  clear H0;obtain⟨left,bG,HR⟩:=hrel;have AN:=zc.out _ HR.out.v
  go_wp2_with (first
   |(at_next;refine amq _ rfl (.tmp 34) rfl underlying9 mapElem (fun s=>.map (some (Fm s))) (w.heap.size+1) wo.heap.size L (fun s=>.lit (.int .i64 (Fm s))) (fun s _ v ps h=>Rp h) left bG rfl HR.out.q ?_ ?_))
  .intro hd;have HD:=Hd.mk hd;clear hd
   go_wp2
   go_ret
   exact⟨L,Fm,rfl,HR.out.done HD.out,HR.out.k⟩
  .intro s1 w' ja hsL adZ Jp az iO Jz vC;obtain⟨f,hf,h1,h2,h3,h4,h5⟩:=HR.out.step hsL adZ Jp iO;have HC:=Hd.mk (alm h1 h2 h3 h4);have H5:=Hd.mk h5;have HL:Hd (w'.rangeLeft (w.heap.size+1) wo.heap.size=ja/\wr.rangeLeft (w.heap.size+1) wo.heap.size=bG):=⟨Jp.left_eq,HR.out.q.left_eq⟩
   clear hf h1 h2 h4 h5 Jp iO AN
   go_wp2_with (first
    |(go_at_call 188;refine HC.out.mono ?_;rintro e w2 ⟨rfl,fy,kL⟩;have HE:=Hd.mk (H5.out w2 fy kL);clear fy kL))
   go_roundw
   case rel=>exact⟨_,ja,HE⟩
   case measure=>rw[HE.out.q.left_eq,HL.out.2];exact az
def qO(w:World)(lo:Nat)(v:Value)(L:List ae):Prop:=∃a cap,v= .slice a L.length cap/\L.length<=maxLen/\∀i (hi:i<L.length),∃g off,a=some ⟨g,off,none⟩/\g<lo/\w.cell? ⟨g,off+i,none⟩=some (.string L[i])
def Rk(lo:Nat)(w w':World):Prop:=∀(k:Nat) (cs:Array Value) (t:TypeId) (f:Nat×Nat),k<lo->w.heap[k]? =some (Obj.cells cs t f)->w'.heap[k]? =w.heap[k]?
theorem qO.R2{w:World}{e:TypeId}{l0 lo:Nat}{v:Value}{L:List ae}(h:names w e l0 v L)(AA:w.heap.size<=lo):qO w lo v L:=by have hl:=h.len;obtain⟨a,cap,rfl,h1,h2,h3⟩:=h;refine⟨a,cap,rfl,hl,fun i hi=>?_⟩;obtain⟨g,off,cur,g1,g2,g3,g4,g5⟩:=h3 (by omega);have:=(ZW.1 g3).1;exact⟨g,off,g1,by omega,by rw[pO g3];grind⟩
theorem qO.to{w w':World}{lo:Nat}{v:Value}{L:List ae}(h:qO w lo v L)(hk:Rk lo w w'):qO w' lo v L:=by
 obtain⟨a,cap,rfl,hl,h3⟩:=h;refine⟨a,cap,rfl,hl,fun i hi=>?_⟩;obtain⟨g,off,g1,g2,g3⟩:=h3 i hi;refine⟨g,off,g1,g2,?_⟩;have hc:∃cs t f,w.heap[g]? =some (Obj.cells cs t f):=by
  cases hh:w.heap[g]? with
  |none=>simp[World.cell?,hh]at g3|some o=>
   cases o with
   |cells cs t f=>grind|_=>simp[World.cell?,hh]at g3
 obtain⟨cs,t,f,hc⟩:=hc;exact(World.cell?_of_block (a:=⟨g,off+i,none⟩) (hk g cs t f g2 hc)).trans g3
theorem Rk.below{lo:Nat}{w w':World}(h:Below w.heap.size w w'):Rk lo w w':=fun k cs t f _ hc=>h.block k (ZW.1 hc).1
theorem Rk.aH{lo b:Nat}{w w':World}(h:bz w w' [b])(hb:∀cs t f,w.heap[b]?≠some (Obj.cells cs t f)):Rk lo w w':=fun k cs t f _ hc=>h.block k (ZW.1 hc).1 (by
 grind)
theorem Rk.qW{lo:Nat}{w w':World}(h:za lo w w'):Rk lo w w':=fun k cs t f hk hc=>h.below k hk (ZW.1 hc).1
theorem Bh{w:World}{b:Nat}(h:∃es c,w.heap[b]? =some (.map es c)):∀cs t f,w.heap[b]?≠some (Obj.cells cs t f):=fun cs t f e=>by grind
theorem J5{w:World}{b r:Nat}(h:∃es c,w.heap[b]? =some (.map es c))(hr:∃x y z u,w.heap[r]? =some (.mapIter x y z u)):b≠r:=fun e=>by grind
structure my(w:World)(fs:List aj)(bA bd lo:Nat)(vN:Value)(L:List ae)(F:ae->Nat)(out:List ae)(wr:World)(vl:Value):Prop where
 v:names wr 9 lo vl out
 d:cz wr bd out
 a:iG wr bA w.heap.size fs L F
 o:jT (deps fs) (bX fs) out
 k:Below w.heap.size w wr
 r:qO wr lo vN (bX fs)
 l1:w.heap.size<=bd
 l2:bd<lo
 l3:lo<=wr.heap.size
 n1:bA≠bd
 n2:∀n∈L,F n≠bd
theorem iG.names{w:World}{b lo:Nat}{fs:List aj}{L:List ae}{F:ae->Nat}(h:iG w b lo fs L F){S:List ae}(h1:bI S)(h2:∀s,s∈S↔s∈L):S=bX fs:=qA h1 (Ka fs) fun x=>by rw[h2,h.l,yl]
theorem iG.len{w:World}{b lo:Nat}{fs:List aj}{L:List ae}{F:ae->Nat}(h:iG w b lo fs L F):L.length<=fs.length:=ZD (jh h.m.1 fun n hn=>yl.2 ((h.l n).1 hn)) (Be fs)
theorem my.start{w w1 w2 w4:World}{fs:List aj}{bA:Nat}{o:Obj}{vN:Value}{L:List ae}{F:ae->Nat}{e:TypeId}{l0:Nat}(tQ:w1=w.alloc o)(ha:iG w2 bA (w.heap.size+1) fs L F)(hb:Below (w.heap.size+1) w1 w2)(hn:names w4 e l0 vN (bX fs))(h4:Below w2.heap.size w2 w4):
  my w fs bA w4.heap.size (w4.heap.size+1) vN L F [] (w4.alloc (.map #[] 0)) (.slice none 0 0):=by
 subst tQ;have e1:(w.alloc o).heap.size=w.heap.size+1:=by simp
 have l1:=hb.size;have l2:=h4.size;have vw:Below w.heap.size w w2:=Cz hb;have hk:bz w4 (w4.alloc (.map #[] 0)) []:=(bz.refl w4 []).alloc _;have xW:=ha.below h4;have lt:=xW.m.lt;refine⟨⟨none,0,rfl,by simp,by simp,fun h=>absurd h (by omega)⟩,E7 w4 _ _ _,⟨(xW.aH hk (by simp) (by simp)).m,xW.l,(xW.aH hk (by simp) (by simp)).s,fun n hn=>by have:=xW.g n hn;omega⟩,jT.start _ _,(vw.trans (xe h4 (by omega))).trans (hk.below (by omega) (by simp)),?_,by omega,by omega,by simp,by omega,fun n hn=>?_⟩
 .exact(qO.R2 (hn.alloc _) (by simp))
 .obtain⟨D,hD,_⟩:=xW.s n hn;have:=hD.lt;omega
theorem my.below{w:World}{fs:List aj}{bA bd lo:Nat}{vN:Value}{L:List ae}{F:ae->Nat}{out:List ae}{wr w':World}{vl:Value}(h:my w fs bA bd lo vN L F out wr vl)(hb:Below wr.heap.size wr w'):my w fs bA bd lo vN L F out w' vl:=
 ⟨RE h.v hb,KV h.d hb,h.a.below hb,h.o,h.k.trans (xe hb h.k.size),h.r.to (.below hb),h.l1,h.l2,ZD h.l3 hb.size,h.n1,h.n2⟩
theorem my.iter{w:World}{fs:List aj}{bA bd lo:Nat}{vN:Value}{L:List ae}{F:ae->Nat}{out:List ae}{wr w':World}{vl:Value}{r:Nat}(h:my w fs bA bd lo vN L F out wr vl)(hit:∃x y z u,wr.heap[r]? =some (.mapIter x y z u))(hr:lo<=r)(hg:wr.grownBy w' (some r)):my w fs bA bd lo vN L F out w' vl:=by
 have hk:=bz.lu hg;have hc:∀cs t f,wr.heap[r]?≠some (Obj.cells cs t f):=fun cs t f e=>by grind
 have l1:=h.l1;have l2:=h.l2;refine⟨h.v.grown hg hc,iC h.d hk (by grind),h.a.aH hk (by simpa using J5 h.a.m.isMap hit) (fun n hn=>?_),h.o,h.k.trans (hk.below h.k.size (by grind)),h.r.to (.aH hk hc),h.l1,h.l2,ZD h.l3 hg.size,h.n1,h.n2⟩;obtain⟨D,hD,_⟩:=h.a.s n hn;simpa using J5 hD.isMap hit
theorem my.mid{w:World}{fs:List aj}{bA bd lo:Nat}{vN:Value}{L:List ae}{F:ae->Nat}{out:List ae}{wr w2:World}{vl:Value}(h:my w fs bA bd lo vN L F out wr vl)(hg:wr.grownBy w2 (some bd))(o:Obj):names (w2.alloc o) 9 lo vl out/\lo<=(w2.alloc o).heap.size:=by have:=h.l3;have:=hg.size;exact⟨(h.v.grown hg (Bh h.d.isMap)).alloc o,by simp;omega⟩
theorem my.put{w:World}{fs:List aj}{bA bd lo:Nat}{vN:Value}{L:List ae}{F:ae->Nat}{out:List ae}{wr w2 w3:World}{vl mq:Value}{s:ae}(h:my w fs bA bd lo vN L F out wr vl)(hn:um (deps fs) (bX fs) out=some s)(hs:cz w2 bd (ins out s))(hg:wr.grownBy w2 (some bd))(o:Obj)(hv:names w3 9 lo mq (out++[s]))(hc:za lo (w2.alloc o) w3):
  my w fs bA bd lo vN L F (out++[s]) w3 mq:=by
 have hk:=bz.lu hg;have l1:=h.l1;have l2:=h.l2;have l3:=h.l3;have lw:=h.k.size;have sz:=hg.size;have kO:s∉out:=(KA.1 (XP hn)).1;have e1:ins out s=out++[s]:=by unfold ins;grind
 have ha:iG w2 bA w.heap.size fs L F:=h.a.aH hk (by simpa using h.n1) (fun n hn=>by simpa using h.n2 n hn);have lR:iG (w2.alloc o) bA w.heap.size fs L F:=ha.aH ((bz.refl w2 []).alloc o) (by simp) (by simp);have b2:Below w.heap.size wr w2:=hk.below lw (by grind);have b3:Below w.heap.size w2 (w2.alloc o):=⟨rfl,rfl,rfl,by simp,fun k hk=>heap_alloc_old w2 o (by omega)⟩
 have b4:Below w.heap.size (w2.alloc o) w3:=⟨hc.os,hc.tape,hc.output,hc.size,fun k hk=>hc.below k (by omega) (by simp;omega)⟩
 refine⟨hv,?_,⟨lR.m.qW hc,lR.l,fun n hn=>?_,lR.g⟩,(h.o.step hn).1,((h.k.trans b2).trans b3).trans b4,?_,h.l1,h.l2,?_,h.n1,h.n2⟩
 .rw[<-e1];exact(dt.alloc hs o).qW hc
 .obtain⟨D,h1,h2⟩:=lR.s n hn;exact⟨D,h1.qW hc,h2⟩
 .exact((h.r.to (.aH hk (Bh h.d.isMap))).to (.below (((bz.refl w2 []).alloc o).below (ZO _) (by simp)))).to (.qW hc)
 .have:=hc.size;simp at this;omega
structure uN(w:World)(fs:List aj)(bA bd lo:Nat)(vN:Value)(L:List ae)(F:ae->Nat)(out:List ae)(s:ae)(D:List ae)(r:Nat)(left:ae->Prop)(bG:Nat)(b:Bool)(wr:World)(vl:Value):Prop where
 o:my w fs bA bd lo vN L F out wr vl
 q:fW wr prog 9 (plainElem prog 4) (F s) r D (fun _=>tt) left bG
 b:b=true↔s∉out/\∀m∈D,¬left m->m∈out
 r:lo<=r
theorem uN.start{w:World}{fs:List aj}{bA bd lo:Nat}{vN:Value}{L:List ae}{F:ae->Nat}{out:List ae}{s:ae}{D:List ae}{bG:Nat}{wr w':World}{vl:Value}(h:my w fs bA bd lo vN L F out wr vl)(hr:fW w' prog 9 (plainElem prog 4) (F s) wr.heap.size D (fun _=>tt) (·∈D) bG)(hg:wr.grownBy w' none):
  uN w fs bA bd lo vN L F out s D wr.heap.size (·∈D) bG (!decide (s∈out)) w' vl:=
 ⟨h.below ((bz.EB hg []).below (ZO _) (by simp)),hr,by
  grind,h.l3⟩
theorem uN.next{w:World}{fs:List aj}{bA bd lo:Nat}{vN:Value}{L:List ae}{F:ae->Nat}{out:List ae}{s:ae}{D:List ae}{r:Nat}{left:ae->Prop}{bG ja:Nat}{b:Bool}{wr w':World}{vl:Value}{m:ae}(h:uN w fs bA bd lo vN L F out s D r left bG b wr vl)(hm:m∈D)
  (hr:fW w' prog 9 (plainElem prog 4) (F s) r D (fun _=>tt) (fun x=>left x/\x≠m) ja) (hg:wr.grownBy w' (some r)):uN w fs bA bd lo vN L F out s D r (fun x=>left x/\x≠m) ja (b&&decide (m∈out)) w' vl\/¬left m:=by
 by_cases hl:left m
 .refine .inl ⟨h.o.iter h.q.iter h.r hg,hr,?_,h.r⟩;rw[Z6,h.b,ZQ];grind
 grind
theorem uN.done{w:World}{fs:List aj}{bA bd lo:Nat}{vN:Value}{L:List ae}{F:ae->Nat}{out:List ae}{s:ae}{D:List ae}{r:Nat}{left:ae->Prop}{bG:Nat}{b:Bool}{wr:World}{vl:Value}(h:uN w fs bA bd lo vN L F out s D r left bG b wr vl)(hd:∀s:ae,s.size<=maxLen->¬left s)(hD:∀m,m∈D↔m∈deps fs s):b=ready (deps fs) out s:=by
 rw[YH,h.b,KA];constructor
 .rintro⟨h1,h2⟩;exact⟨h1,fun m hm=>h2 m ((hD m).2 hm) (hd m (h.q.2.1 m ((hD m).2 hm)))⟩
 grind
