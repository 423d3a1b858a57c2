/- catalog.Uses, walked. -/
import Derived.Test.YtcccbdelfhgmlaaGreatDoorCi
set_option linter.unusedVariables false
set_option linter.unusedSimpArgs false
namespace Go.Proofs.YtcccbdelfhgmlaaGreatDoor
open Go.RowKit Go.Proofs Go.Tb Go.Maps
open Go.Sx (AV Mem RL R M0 Glob)
set_option maxHeartbeats 4000000 in
set_option maxRecDepth 1000000 in
theorem axD(c:di)(x:Ex)(hU:Aj c.features x){M:Mem}{w:World}(hI:Sx.Inv Tryz.prog M ⟨w,M⟩ [] w){Cc Cx:Array Value}(hC:RL M c.cells Cc.toList)(hX:RL M x.cells Cx.toList):
  Calls Tryz.prog 9 #[.agg Cc,.agg Cx] w fun e W'=>∃ v1 v2,e= .returned (.tuple #[v1,v2])∧names W' 9 w.heap.size v1 (rS c.features x)∧names W' 9 w.heap.size v2 (rT c.features x)∧Below w.heap.size w W':=by
 have lC:Cc.size=4:=by have:=hC.1;simpa[di.cells]using this.symm
 have lX:Cx.size=12:=by have:=hX.1;rw[congrFun Ex.j1 x]at this;simpa[Ex.row]using this.symm
 have Ar:Sx.eV Tryz.prog 25=some (true,Cc.toList.length):=by rw[Zb,lC];kernel_rfl
 have agX:Sx.eV Tryz.prog 33=some (true,Cx.toList.length):=by rw[Zb,lX];kernel_rfl
 clear lC lX
 obtain⟨w4,oC⟩:∃ w4,w4=(((w.alloc (.cells Cc 25)).alloc (.cells Cx 33)).alloc (.map #[] 0)).alloc (.map #[] 0):=⟨_,rfl⟩
 have ni:w4.heap.size=w.heap.size+4:=by rw[oC];simp
 have Iy:Below w.heap.size w w4:=by rw[oC];exact(((((aW.refl w []).alloc _).alloc _).alloc _).alloc _).below (ZR _) (by simp)
 have Qq:w4.heap[w.heap.size]? =some (.cells Cc 25 (0,0)):=by
  rw[oC,heap_alloc_old _ _ (by simp;omega),heap_alloc_old _ _ (by simp;omega),heap_alloc_old _ _ (by simp),heap_alloc_new]
 have Rw:w4.heap[w.heap.size+1]? =some (.cells Cx 33 (0,0)):=by
  rw[oC,heap_alloc_old _ _ (by simp),heap_alloc_old _ _ (by simp)]
  have:=heap_alloc_new (w.alloc (.cells Cc 25)) (.cells Cx 33)
  simpa using this
 have Q1:bV w4 (w.heap.size+2) []:=by
  have:=we ((w.alloc (.cells Cc 25)).alloc (.cells Cx 33)) Tryz.prog 9 4
  rw[show((w.alloc (.cells Cc 25)).alloc (.cells Cx 33)).heap.size=w.heap.size+2 by simp]at this
  rw[oC];exact this.alloc _
 have Rm:bV w4 (w.heap.size+3) []:=by
  have:=we (((w.alloc (.cells Cc 25)).alloc (.cells Cx 33)).alloc (.map #[] 0)) Tryz.prog 9 4
  rw[show(((w.alloc (.cells Cc 25)).alloc (.cells Cx 33)).alloc (.map #[] 0)).heap.size=w.heap.size+3 by simp]at this
  rw[oC];exact this
 have lx:=Fc Rw
 have yb:= @run_makeMap Tryz.prog
 have xR:=hU.n
 have DV:=hU.t
 have Ii:=Dw x.size x (ZR _) M w4 (uP hI Iy) Cx hX (w.heap.size+2) (w.heap.size+3) [] [] Q1 Rm (by omega) (by unfold univ at xR;rw[Z5]at xR;simp;omega) (by unfold mF at DV;rw[Z5]at DV;simp;omega)
  (fun s hs=>hU.sn s (ZN _ hs)) (fun s hs=>hU.st s (ZN _ hs))
 obtain⟨Rel,jo⟩:∃ Rel:Nat→Value→World→Prop,∀ n v wr,Rel n v wr↔∃ N T Wt,C8 w Cc N T Wt wr v∧iS c.features x N T Wt∧n=((univ c.features x.aV).length-N.length)+Wt.length:=⟨_,fun _ _ _=>Iff.rfl⟩
 have pC:∀ (w5 w7:World) (v:Value) (S:List ae),bV w5 (w.heap.size+2) (dm [] x.aV)→bV w5 (w.heap.size+3) (dm [] x.cy)→aW w4 w5 [w.heap.size+2,w.heap.size+3]→bO S→(∀ s,s∈S↔s∈dm [] x.aV)→names w7 9 (w5.heap.size+1) v S→
   Below (w5.heap.size+1) (w5.alloc (.cells #[.map (some (w.heap.size+2))] 69)) w7→∃ n,Rel n v w7:=fun w5 w7 v S h1 h2 h3 h4 h5 h6 h7=>by
  have g1:=h3.size
  have lF:=h1.lt
  have lT:=h2.lt
  have e:(w5.alloc (.cells #[.map (some (w.heap.size+2))] 69)).heap.size=w5.heap.size+1:=by simp
  have k7:aW w5 w7 []:=((aW.refl w5 []).alloc _).trans (aW.yH (by rw[← e]at h7;exact h7) []) (by simp)
  refine⟨_,(jo _ _ _).2 ⟨dm [] x.aV,dm [] x.cy,S,⟨h6.mono (by omega),fW h1 k7 (by simp),fW h2 k7 (by simp),?_,?_⟩,⟨fun n hn=>rz.2 (.inl hn),fun n hn=>rz.2 (.inl hn),fun n hn=> ?_,fun n hn=> ?_,fun n hn=>(h5 n).1 hn,fun n hn=> .inl ((h5 n).2 hn),Er .nil,Er .nil,iN (wj h4) fun n hn=>(h5 n).1 hn⟩,rfl⟩⟩
  ·exact(Iy.trans (h3.below (by omega) (by simp))).trans (k7.below (by omega) (by simp))
  ·rw[k7.block _ (by omega) (by simp),h3.block _ (by omega) (by simp)];exact Qq
  ·rcases rz.1 hn with h|h
   ·exact .base h
   ·cases h
  ·rcases rz.1 hn with h|h
   ·exact .inl h
   ·cases h
 rw[oC]at Ii lx
 rw[oC]at pC
 have Mf:=Hd.mk pC
 have lD:=Hd.mk jo
 have Mb:=Hd.mk Ii
 have HB:=Hd.mk hI
 have HU:=Hd.mk hU
 clear pC jo Ii hI hU Iy Qq Rw Q1 Rm ni oC
 go_enter Tryz.func9,Tryz.ntmps9
 go_wp2_with (first
  |(show wpList _ _ _ (⟨some 16,_,_,_,_,_⟩::_) _ _;refine qI rfl 33 (.tmp 3) rfl (w.heap.size+1) 0 rfl Cx lx agX ?_)
  |(go_at_call 21;refine Mb.out.mono ?_;rintro e w5 ⟨⟨v5,rfl⟩,Je,Rn,I8⟩;have Ja:(dm [] x.aV).length≤4398046511104:=(by have:=BR x.aV [];unfold univ at xR;rw[Z5]at xR;simp at this;omega))
  |(go_at_call 23;refine(JZ (w.heap.size+2) _).mono ?_;rintro e w6 ⟨rfl,rfl⟩)
  |(go_at_call 22;refine(Fw Je Ja).mono ?_;rintro e w7 ⟨v7,S7,rfl,Rh,QT,Rq,Ql⟩;have vy:=Mf.out w5 w7 v7 S7 Je Rn I8 Rh QT Rq Ql;clear Mb Mf lx Je Rn I8 Rh QT Rq Ql Ja))
 go_loopw [8] (fun v wr=>∃ n,Rel n v wr) (fun v wr=>mu (fun n=>Rel n v wr))
 case atStart=>exact vy
 obtain⟨N,T,Wt,hS,aP,hn⟩:=(lD.out _ _ _).1 (Kd hrel)
 clear vy hrel
 cases Wt with
 |nil=>
  obtain⟨a0,N8,rfl⟩:=hS.v.shape
  have QK:N.length≤4398046511104:=by have:=aP.J1;omega
  have Bt:T.length≤4398046511104:=by have:=aP.J2;omega
  go_wp2_with (first
   |(go_at_call 23;refine(JZ _ _).mono ?_;rintro e w6 ⟨rfl,rfl⟩)
   |(go_at_call 22;first|(refine(Fw hS.n QK).mono ?_;rintro e w8 ⟨v8,S8,rfl,hs8,hm8,hv8,Qm⟩;have ht8:bV w8 (w.heap.size+3) T:=fW hS.t (((aW.refl wr []).alloc _).trans (aW.yH (by simpa using Qm) []) (by simp)) (by simp))|(refine(Fw ht8 Bt).mono ?_;rintro e w9 ⟨v9,S9,rfl,hs9,hm9,hv9,hb9⟩)))
  go_ret2
  have hu:=aP.done hs8 hm8 hs9 hm9
  have b8:=uO Qm
  have b9:=uO hb9
  have lw:=hS.k.size
  exact⟨v8,v9,rfl,hu.1 ▸ yF (hv8.mono (by omega)) b9,hu.2 ▸ hv9.mono (by have:=b8.size;omega),(hS.k.trans (gx b8 lw)).trans (gx b9 (by have:=b8.size;omega))⟩
 |cons s Wt=>
  obtain⟨g0,agV,N8,rfl,od⟩:=hS.v.head
  have Mc:=Hd.mk (ad5 c (uP HB.out hS.k) hC s)
  have HC:=Hd.mk (Fc hS.c)
  have HL:Hd (∀ (N' Ap T':List ae) (v':Value) (w':World),C8 w Cc N' T' Ap w' v'→iS c.features x N' T' Ap→((univ c.features x.aV).length-N'.length)+Ap.length<((univ c.features x.aV).length-N.length)+(s::Wt).length→(∃ n,Rel n v' w')∧(mu fun n=>Rel n v' w')<mu fun n=>Rel n (Value.slice (some ⟨g0,agV,none⟩) (Wt.length+1) N8) wr):=⟨fun N' Ap T' v' w' h1 h2 h3=>by
   have h4:=(lD.out _ v' w').2 ⟨N',T',Ap,h1,h2,rfl⟩
   exact⟨⟨_,h4⟩,Kb h4 (by rw[hn];exact h3)⟩⟩
  have HS:=Hd.mk hS
  have HI:=Hd.mk aP
  clear hn lD hS aP xR DV
  go_wp2_with (first
   |(show wpList _ _ _ (⟨some 30,_,_,_,_,_⟩::_) _ _;refine ayd _ rfl 43 (.tmp 29) rfl 9 Tryz.underlying43 Tryz.sizeOf9 (w.heap.size+4) _ s Wt rfl HS.out.v ?_;intro vt BO)
   |(show wpList _ _ _ (⟨some 32,_,_,_,_,_⟩::_) _ _;refine qI rfl 25 (.tmp 2) rfl w.heap.size 0 rfl Cc HC.out Ar ?_)
   |(go_at_call 24;refine Mc.out.mono ?_;rintro e w1 ⟨M1,Cf,bf,rfl,vd,dZ,fA,BB,kP⟩;clear Mc HC;have tA:(Tryz.prog.info? 51).map (·.size)=some Cf.size:=(by rw[fA];kernel_rfl);have Dc:Hd (Sx.eV Tryz.prog 33=some (true,((Cf.toList.drop 5).take 12).toArray.toList.length)):=⟨by rw[NB fA];kernel_rfl⟩;rcases kP with⟨rfl,hf⟩|⟨f,rfl,hf,nY⟩)
   |(show wpList _ _ _ (⟨none,.store _ _ _,_,_,_,_⟩::_) _ _;refine wpList_store_row rfl 51 (.tmp 10) (.tmp 35) rfl w1.heap.size Cf rfl rfl 51 _ (heap_alloc_new _ _) tA fA.symm BB ?_;generalize gD:(World.setRow (World.alloc w1 _) w1.heap.size Cf)=w2;have dt:Below w1.heap.size w1 w2:=gD ▸ GQ _ _ _;have aY:w2.heap[w1.heap.size]? =some (.cells Cf 51 (0,0)):=gD ▸ setRow_heap _ _ _ _ _ _ (heap_alloc_new _ _);have cI:w2.heap.size=w1.heap.size+1:=gD ▸ (by simp[World.setRow]);clear gD)
   |(show wpList _ _ _ (⟨some 41,_,_,_,_,_⟩::_) _ _;refine qI rfl 33 (.tmp 40) rfl w1.heap.size 5 rfl ((Cf.toList.drop 5).take 12).toArray (NA _ aY fA) Dc.out ?_)
   |(go_at_call 21;refine(axC HU.out HS.out HI.out dZ vd dt cI hf nY).mono ?_;rintro e w3 ⟨⟨v3,rfl⟩,QS,Ef,Ec,ym,Bp,IG,aeY⟩;have ym:=ym _ BO)
   |(at_range;refine LD _ rfl _ 69 rfl Tryz.underlying9 4 Tryz.underlying69 (plainElem Tryz.prog 4) (w1.heap.size+1) (dm [] f.body.aV) (fun _=>tt) rfl QS ?_;intro w4r AB pQ od BM))
  ·go_roundw
   case rel=>exact(HL.out N Wt T vt w2 ⟨yF BO (dZ.trans (gx dt dZ.size)),rM HS.out.n (dZ.trans (gx dt dZ.size)),rM HS.out.t (dZ.trans (gx dt dZ.size)),HS.out.k.trans (gx (dZ.trans (gx dt dZ.size)) HS.out.k.size),by rw[(dZ.trans (gx dt dZ.size)).block _ (ZX.1 HS.out.c).1];exact HS.out.c⟩ (HI.out.skip hf) (by simp only[Z6];omega)).1
   case measure=>exact(HL.out N Wt T vt w2 ⟨yF BO (dZ.trans (gx dt dZ.size)),rM HS.out.n (dZ.trans (gx dt dZ.size)),rM HS.out.t (dZ.trans (gx dt dZ.size)),HS.out.k.trans (gx (dZ.trans (gx dt dZ.size)) HS.out.k.size),by rw[(dZ.trans (gx dt dZ.size)).block _ (ZX.1 HS.out.c).1];exact HS.out.c⟩ (HI.out.skip hf) (by simp only[Z6];omega)).2
  have Qf:=gW.start Ef Ec ym Bp IG (by have:=HS.out.t.lt;omega) pQ od
  have HI1:=Hd.mk (HU.out.n)
  have QO:=(Hy (x:=x) hf)
  clear vd dZ fA BB tA Dc nY dt aY cI QS Ef Ec ym Bp IG pQ od BM
  obtain⟨wo,rfl⟩:∃ wo:World,wo=wr:=⟨wr,rfl⟩
  go_frame
  go_loopw [8] (fun v wr=>∃ A left aI,gW w Cc (w1.heap.size+1) w3.heap.size (dm [] f.body.aV) N (dm T f.body.cy) Wt A left aI wr v) (fun _ wr=>wr.rangeLeft (w1.heap.size+1) w3.heap.size)
  case atStart=>exact⟨[],_,AB,Qf⟩
  clear Qf
  obtain⟨A,left,aI,hR⟩:=hrel
  have HR:=Hd.mk hR
  obtain⟨lA,lN,lW⟩:=gW.lens HU.out hf HI.out hR
  have lNA:(N++A).length≤549755813888:=by rw[Z5];omega
  have lWA:(Wt++A).length+1≤4398046511104:=by rw[Z5];omega
  clear hR
  obtain⟨i0,oe,ka,fA,np⟩:=info_parts FB
  have Eb:(549755813888:Nat)<maxLen:=by decide
  have hnd:=hf
  go_wp2_with (first
   |(at_next;refine LB _ rfl (.tmp 46) rfl Tryz.underlying9 (plainElem Tryz.prog 4) (fun _=> .bool true) (w1.heap.size+1) w3.heap.size (dm [] f.body.aV) (fun _=>tt) (fun s _ v ps h=>Dj Tryz.underlying4 h) left aI rfl HR.out.q ?_ ?_))
  ·intro hd
   go_wp2
   have hE:=gW.end_ HI.out hf HR.out hd
   have hE3:=hE.2.J1
   have P6:=HL.out _ _ _ _ _ hE.1 hE.2 (by simp only[Z5,Z6]at *;omega)
   go_roundw
   case rel=>exact P6.1
   case measure=>exact P6.2
  ·intro s1 w' eQ kW D8 me ax eX tA x6
   have iJ:s1.size≤maxLen:=me.2.1 s1 kW
   have HN:=Hd.mk (HR.out.next me eX)
   have HG:=Hd.mk (And.intro me eX)
   clear me eX
   have C2:Hd (w'.rangeLeft (w1.heap.size+1) w3.heap.size<wr.rangeLeft (w1.heap.size+1) w3.heap.size):=⟨by rw[HG.out.1.left_eq,HR.out.q.left_eq];exact ax⟩
   by_cases fI:s1∈N++A
   ·go_wp2_with (at_lookup;refine ux _ rfl _ _ 69 rfl Tryz.underlying9 Tryz.underlying4 Tryz.underlying69 (Tryz.zeroValue4 _) (w.heap.size+2) (N++A) rfl HN.out.2.1 s1 rfl iJ ?_;rw[Zi fI])
    go_roundw
    case rel=>exact⟨A,_,eQ,HR.out.stay HG.out.1 HG.out.2 fI⟩
    case measure=>exact C2.out
   ·go_wp2_with (first
     |(at_lookup;refine ux _ rfl _ _ 69 rfl Tryz.underlying9 Tryz.underlying4 Tryz.underlying69 (Tryz.zeroValue4 _) (w.heap.size+2) (N++A) rfl HN.out.2.1 s1 rfl iJ ?_;rw[Zn fI])
     |(at_mapUpdate;refine CT _ rfl _ _ _ 69 rfl Tryz.underlying9 Tryz.underlying4 Tryz.underlying69 (w.heap.size+2) (N++A) rfl HN.out.2.1 (by omega) s1 rfl iJ rfl ?_;intro Lv BI vr;have HM:=Hd.mk (HR.out.mid HG.out.1 HG.out.2 vr (.cells #[.string s1] 9));have H2:=Hd.mk (And.intro BI vr);clear BI vr)
     |(at_builtin;refine VI _ rfl (.tmp 57) (.tmp 59) 43 rfl 9 i0 (.string ⟨#[]⟩) Tryz.underlying43 oe ka fA np rfl (w.heap.size+4) HM.out.2 _ (Wt++A) rfl HM.out.1 Lv.heap.size s1 rfl ((pn (heap_alloc_new _ _)).trans rfl) lWA ?_;intro vn VA JF IJ))
    have HE:=HR.out.more HG.out.1 HG.out.2 fI kW H2.out.1 H2.out.2 _ JF IJ
    go_roundw
    case rel=>exact⟨A++[s1],_,eQ,HE⟩
    case measure=>rw[HE.q.left_eq,HR.out.q.left_eq];exact ax
end Go.Proofs.YtcccbdelfhgmlaaGreatDoor
