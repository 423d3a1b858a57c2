/- catalog.Uses, walked. -/
import Derived.Test.YtomhopcnkicknaaGreatDoorCi
set_option linter.unusedVariables false
set_option linter.unusedSimpArgs false
namespace Go.Proofs.YtomhopcnkicknaaGreatDoor
open _root_.Go.Proofs.Tryz
open Go.RowKit Go.Proofs Go.Tb Go.Maps
open Go.Sx (AV Mem RL R M0 Glob)
set_option maxHeartbeats 4000000 in
set_option maxRecDepth 1000000 in
theorem aMD(c:az)(x:Ex)(hU:xJ c.features x){M:Mem}{w:World}(hI:Sx.Inv prog M ⟨w,M⟩ [] w){Cc Cx:Array Value}(hC:RL M c.cells Cc.toList)(hX:RL M x.cells Cx.toList):
  Calls prog 24 #[.agg Cc,.agg Cx] w fun e W'=>∃ v1 v2,e= .returned (.tuple #[v1,v2])∧names W' 9 w.heap.size v1 (rY c.features x)∧names W' 9 w.heap.size v2 (rZ c.features x)∧Below w.heap.size w W':=by
 have lC:Cc.size=4:=by have:=hC.1;simpa[az.cells]using this.symm
 have lX:Cx.size=12:=by have:=hX.1;rw[congrFun Ex.lj x]at this;simpa[Ex.row]using this.symm
 have xN:Sx.en prog 25=some (true,Cc.toList.length):=by rw[Zi,lC];kernel_rfl
 have Wi:Sx.en prog 42=some (true,Cx.toList.length):=by rw[Zi,lX];kernel_rfl
 clear lC lX
 obtain⟨w4,pX⟩:∃ w4,w4=(((w.alloc (.cells Cc 25)).alloc (.cells Cx 42)).alloc (.map #[] 0)).alloc (.map #[] 0):=⟨_,rfl⟩
 have mA:w4.heap.size=w.heap.size+4:=by rw[pX];simp
 have vG:Below w.heap.size w w4:=by rw[pX];exact(((((aZ.refl w []).alloc _).alloc _).alloc _).alloc _).below (ZR _) (by simp)
 have MR:w4.heap[w.heap.size]? =some (.cells Cc 25 (0,0)):=by
  rw[pX,heap_alloc_old _ _ (by simp;omega),heap_alloc_old _ _ (by simp;omega),heap_alloc_old _ _ (by simp),heap_alloc_new]
 have NN:w4.heap[w.heap.size+1]? =some (.cells Cx 42 (0,0)):=by
  rw[pX,heap_alloc_old _ _ (by simp),heap_alloc_old _ _ (by simp)]
  have:=heap_alloc_new (w.alloc (.cells Cc 25)) (.cells Cx 42)
  simpa using this
 have vQ:bN w4 (w.heap.size+2) []:=by
  have:=ui ((w.alloc (.cells Cc 25)).alloc (.cells Cx 42)) prog 9 4
  rw[show((w.alloc (.cells Cc 25)).alloc (.cells Cx 42)).heap.size=w.heap.size+2 by simp]at this
  rw[pX];exact this.alloc _
 have NF:bN w4 (w.heap.size+3) []:=by
  have:=ui (((w.alloc (.cells Cc 25)).alloc (.cells Cx 42)).alloc (.map #[] 0)) prog 9 4
  rw[show(((w.alloc (.cells Cc 25)).alloc (.cells Cx 42)).alloc (.map #[] 0)).heap.size=w.heap.size+3 by simp]at this
  rw[pX];exact this
 have lx:=Dg NN
 have Cg:= @run_makeMap prog
 have vC:=hU.n
 have BT:=hU.t
 have FG:=Bx x.size x (ZR _) M w4 (sJ hI vG) Cx hX (w.heap.size+2) (w.heap.size+3) [] [] vQ NF (by omega) (by unfold univ at vC;rw[Z9]at vC;simp;omega) (by unfold lY at BT;rw[Z9]at BT;simp;omega)
  (fun s hs=>hU.sn s (ZK _ hs)) (fun s hs=>hU.st s (ZK _ hs))
 obtain⟨Rel,iR⟩:∃ Rel:Nat→Value→World→Prop,∀ n v wr,Rel n v wr↔∃ N T Wt,A1 w Cc N T Wt wr v∧ia c.features x N T Wt∧n=((univ c.features x.aR).length-N.length)+Wt.length:=⟨_,fun _ _ _=>Iff.rfl⟩
 have oy:∀ (w5 w7:World) (v:Value) (S:List ae),bN w5 (w.heap.size+2) (cR [] x.aR)→bN w5 (w.heap.size+3) (cR [] x.bO)→aZ w4 w5 [w.heap.size+2,w.heap.size+3]→bg S→(∀ s,s∈S↔s∈cR [] x.aR)→names w7 9 (w5.heap.size+1) v S→
   Below (w5.heap.size+1) (w5.alloc (.cells #[.map (some (w.heap.size+2))] 86)) w7→∃ n,Rel n v w7:=fun w5 w7 v S h1 h2 h3 h4 h5 h6 h7=>by
  have g1:=h3.size
  have lF:=h1.lt
  have lT:=h2.lt
  have e:(w5.alloc (.cells #[.map (some (w.heap.size+2))] 86)).heap.size=w5.heap.size+1:=by simp
  have k7:aZ w5 w7 []:=((aZ.refl w5 []).alloc _).trans (aZ.wz (by rw[← e]at h7;exact h7) []) (by simp)
  refine⟨_,(iR _ _ _).2 ⟨cR [] x.aR,cR [] x.bO,S,⟨h6.mono (by omega),fE h1 k7 (by simp),fE h2 k7 (by simp),?_,?_⟩,⟨fun n hn=>qa.2 (.inl hn),fun n hn=>qa.2 (.inl hn),fun n hn=> ?_,fun n hn=> ?_,fun n hn=>(h5 n).1 hn,fun n hn=> .inl ((h5 n).2 hn),CF .nil,CF .nil,gn (wR h4) fun n hn=>(h5 n).1 hn⟩,rfl⟩⟩
  ·exact(vG.trans (h3.below (by omega) (by simp))).trans (k7.below (by omega) (by simp))
  ·rw[k7.block _ (by omega) (by simp),h3.block _ (by omega) (by simp)];exact MR
  ·rcases qa.1 hn with h|h
   ·exact .base h
   ·cases h
  ·rcases qa.1 hn with h|h
   ·exact .inl h
   ·cases h
 rw[pX]at FG lx
 rw[pX]at oy
 have JT:=Hd.mk oy
 have la:=Hd.mk iR
 have JP:=Hd.mk FG
 have HB:=Hd.mk hI
 have HU:=Hd.mk hU
 clear oy iR FG hI hU vG MR NN vQ NF mA pX
 go_enter func24,ntmps24
 go_wp2_with (first
  |(show wpList _ _ _ (⟨some 16,_,_,_,_,_⟩::_) _ _;refine pC rfl 42 (.tmp 3) rfl (w.heap.size+1) 0 rfl Cx lx Wi ?_)
  |(go_at_call 52;refine JP.out.mono ?_;rintro e w5 ⟨⟨v5,rfl⟩,Gp,NG,Gh⟩;have Nc:(cR [] x.aR).length≤4398046511104:=(by have:=zF x.aR [];unfold univ at vC;rw[Z9]at vC;simp at this;omega))
  |(go_at_call 54;refine(Hk (w.heap.size+2) _).mono ?_;rintro e w6 ⟨rfl,rfl⟩)
  |(go_at_call 53;refine(Ds Gp Nc).mono ?_;rintro e w7 ⟨v7,S7,rfl,NB,Ng,NJ,ML⟩;have Nu:=JT.out w5 w7 v7 S7 Gp NG Gh NB Ng NJ ML;clear JP JT lx Gp NG Gh NB Ng NJ ML Nc))
 go_loopw [8] (fun v wr=>∃ n,Rel n v wr) (fun v wr=>mu (fun n=>Rel n v wr))
 case atStart=>exact Nu
 obtain⟨N,T,Wt,hS,aS,hn⟩:=(la.out _ _ _).1 (HQ hrel)
 clear Nu hrel
 cases Wt with
 |nil=>
  obtain⟨a0,KH,rfl⟩:=hS.v.shape
  have Nd:N.length≤4398046511104:=by have:=aS.Ho;omega
  have yP:T.length≤4398046511104:=by have:=aS.Hq;omega
  go_wp2_with (first
   |(go_at_call 54;refine(Hk _ _).mono ?_;rintro e w6 ⟨rfl,rfl⟩)
   |(go_at_call 53;first|(refine(Ds hS.n Nd).mono ?_;rintro e w8 ⟨v8,S8,rfl,hs8,hm8,hv8,MN⟩;have ht8:bN w8 (w.heap.size+3) T:=fE hS.t (((aZ.refl wr []).alloc _).trans (aZ.wz (by simpa using MN) []) (by simp)) (by simp))|(refine(Ds ht8 yP).mono ?_;rintro e w9 ⟨v9,S9,rfl,hs9,hm9,hv9,hb9⟩)))
  go_ret2
  have hu:=aS.done hs8 hm8 hs9 hm9
  have b8:=sI MN
  have b9:=sI hb9
  have lw:=hS.k.size
  exact⟨v8,v9,rfl,hu.1 ▸ wx (hv8.mono (by omega)) b9,hu.2 ▸ hv9.mono (by have:=b8.size;omega),(hS.k.trans (fR b8 lw)).trans (fR b9 (by have:=b8.size;omega))⟩
 |cons s Wt=>
  obtain⟨g0,agY,KH,rfl,nh⟩:=hS.v.head
  have JQ:=Hd.mk (abL c (sJ HB.out hS.k) hC s)
  have HC:=Hd.mk (Dg hS.c)
  have HL:Hd (∀ (N' xM T':List ae) (v':Value) (w':World),A1 w Cc N' T' xM w' v'→ia c.features x N' T' xM→((univ c.features x.aR).length-N'.length)+xM.length<((univ c.features x.aR).length-N.length)+(s::Wt).length→(∃ n,Rel n v' w')∧(mu fun n=>Rel n v' w')<mu fun n=>Rel n (Value.slice (some ⟨g0,agY,none⟩) (Wt.length+1) KH) wr):=⟨fun N' xM T' v' w' h1 h2 h3=>by
   have h4:=(la.out _ v' w').2 ⟨N',T',xM,h1,h2,rfl⟩
   exact⟨⟨_,h4⟩,HK h4 (by rw[hn];exact h3)⟩⟩
  have HS:=Hd.mk hS
  have HI:=Hd.mk aS
  clear hn la hS aS vC BT
  go_wp2_with (first
   |(show wpList _ _ _ (⟨some 30,_,_,_,_,_⟩::_) _ _;refine aM9 _ rfl 67 (.tmp 29) rfl 9 underlying67 sizeOf9 (w.heap.size+4) _ s Wt rfl HS.out.v ?_;intro vt y8)
   |(show wpList _ _ _ (⟨some 32,_,_,_,_,_⟩::_) _ _;refine pC rfl 25 (.tmp 2) rfl w.heap.size 0 rfl Cc HC.out xN ?_)
   |(go_at_call 55;refine JQ.out.mono ?_;rintro e w1 ⟨M1,Cf,bf,rfl,BP,cP,cj,tH,FZ⟩;clear JQ HC;have nC:(prog.info? 44).map (·.size)=some Cf.size:=(by rw[cj];kernel_rfl);have A9:Hd (Sx.en prog 42=some (true,((Cf.toList.drop 5).take 12).toArray.toList.length)):=⟨by rw[Ks cj];kernel_rfl⟩;rcases FZ with⟨rfl,hf⟩|⟨f,rfl,hf,mY⟩)
   |(show wpList _ _ _ (⟨none,.store _ _ _,_,_,_,_⟩::_) _ _;refine wpList_store_row rfl 44 (.tmp 10) (.tmp 35) rfl w1.heap.size Cf rfl rfl 44 _ (heap_alloc_new _ _) nC cj.symm tH ?_;generalize jV:(World.setRow (World.alloc w1 _) w1.heap.size Cf)=w2;have c9:Below w1.heap.size w1 w2:=jV ▸ uT _ _ _;have dr:w2.heap[w1.heap.size]? =some (.cells Cf 44 (0,0)):=jV ▸ setRow_heap _ _ _ _ _ _ (heap_alloc_new _ _);have dL:w2.heap.size=w1.heap.size+1:=jV ▸ (by simp[World.setRow]);clear jV)
   |(show wpList _ _ _ (⟨some 41,_,_,_,_,_⟩::_) _ _;refine pC rfl 42 (.tmp 40) rfl w1.heap.size 5 rfl ((Cf.toList.drop 5).take 12).toArray (Kr _ dr cj) A9.out ?_)
   |(go_at_call 52;refine(aMC HU.out HS.out HI.out cP BP c9 dL hf mY).mono ?_;rintro e w3 ⟨⟨v3,rfl⟩,Ce,Cr,Ci,vV,Gg,FY,ac1⟩;have vV:=vV _ y8)
   |(at_range;refine Jp _ rfl _ 86 rfl underlying9 4 underlying86 (plainElem prog 4) (w1.heap.size+1) (cR [] f.body.aR) (fun _=>tt) rfl Ce ?_;intro w4r xV oL nh y7))
  ·go_roundw
   case rel=>exact(HL.out N Wt T vt w2 ⟨wx y8 (cP.trans (fR c9 cP.size)),qo HS.out.n (cP.trans (fR c9 cP.size)),qo HS.out.t (cP.trans (fR c9 cP.size)),HS.out.k.trans (fR (cP.trans (fR c9 cP.size)) HS.out.k.size),by rw[(cP.trans (fR c9 cP.size)).block _ (Z0.1 HS.out.c).1];exact HS.out.c⟩ (HI.out.skip hf) (by simp only[Z8];omega)).1
   case measure=>exact(HL.out N Wt T vt w2 ⟨wx y8 (cP.trans (fR c9 cP.size)),qo HS.out.n (cP.trans (fR c9 cP.size)),qo HS.out.t (cP.trans (fR c9 cP.size)),HS.out.k.trans (fR (cP.trans (fR c9 cP.size)) HS.out.k.size),by rw[(cP.trans (fR c9 cP.size)).block _ (Z0.1 HS.out.c).1];exact HS.out.c⟩ (HI.out.skip hf) (by simp only[Z8];omega)).2
  have MC:=gy.start Cr Ci vV Gg FY (by have:=HS.out.t.lt;omega) oL nh
  have HI1:=Hd.mk (HU.out.n)
  have hlf:=(Fb (x:=x) hf)
  clear BP cP cj tH nC A9 mY c9 dr dL Ce Cr Ci vV Gg FY oL nh y7
  obtain⟨wo,rfl⟩:∃ wo:World,wo=wr:=⟨wr,rfl⟩
  go_frame
  go_loopw [8] (fun v wr=>∃ A left aY,gy w Cc (w1.heap.size+1) w3.heap.size (cR [] f.body.aR) N (cR T f.body.bO) Wt A left aY wr v) (fun _ wr=>wr.rangeLeft (w1.heap.size+1) w3.heap.size)
  case atStart=>exact⟨[],_,xV,MC⟩
  clear MC
  obtain⟨A,left,aY,hR⟩:=hrel
  have HR:=Hd.mk hR
  obtain⟨lA,lN,lW⟩:=gy.lens HU.out hf HI.out hR
  have lNA:(N++A).length≤549755813888:=by rw[Z9];omega
  have lWA:(Wt++A).length+1≤4398046511104:=by rw[Z9];omega
  clear hR
  obtain⟨i0,my,fX,cj,dt⟩:=info_parts Dv
  have Ch:(549755813888:Nat)<maxLen:=by decide
  have hnd:=hf
  go_wp2_with (first
   |(at_next;refine Jo _ rfl (.tmp 46) rfl underlying9 (plainElem prog 4) (fun _=> .bool true) (w1.heap.size+1) w3.heap.size (cR [] f.body.aR) (fun _=>tt) (fun s _ v ps h=>Bf underlying4 h) left aY rfl HR.out.q ?_ ?_))
  ·intro hd
   go_wp2
   have hE:=gy.end_ HI.out hf HR.out hd
   have hE3:=hE.2.Ho
   have Mo:=HL.out _ _ _ _ _ hE.1 hE.2 (by simp only[Z9,Z8]at *;omega)
   go_roundw
   case rel=>exact Mo.1
   case measure=>exact Mo.2
  ·intro s1 w' eD kO Cb lI ax eM nC vM
   have iw:s1.size≤maxLen:=lI.2.1 s1 kO
   have HN:=Hd.mk (HR.out.next lI eM)
   have HG:=Hd.mk (And.intro lI eM)
   clear lI eM
   have AW:Hd (w'.rangeLeft (w1.heap.size+1) w3.heap.size<wr.rangeLeft (w1.heap.size+1) w3.heap.size):=⟨by rw[HG.out.1.left_eq,HR.out.q.left_eq];exact ax⟩
   by_cases dq:s1∈N++A
   ·go_wp2_with (at_lookup;refine si _ rfl _ _ 86 rfl underlying9 underlying4 underlying86 (zeroValue4 _) (w.heap.size+2) (N++A) rfl HN.out.2.1 s1 rfl iw ?_;rw[Zd dq])
    go_roundw
    case rel=>exact⟨A,_,eD,HR.out.stay HG.out.1 HG.out.2 dq⟩
    case measure=>exact AW.out
   ·go_wp2_with (first
     |(at_lookup;refine si _ rfl _ _ 86 rfl underlying9 underlying4 underlying86 (zeroValue4 _) (w.heap.size+2) (N++A) rfl HN.out.2.1 s1 rfl iw ?_;rw[ZA dq])
     |(at_mapUpdate;refine Az _ rfl _ _ _ 86 rfl underlying9 underlying4 underlying86 (w.heap.size+2) (N++A) rfl HN.out.2.1 (by omega) s1 rfl iw rfl ?_;intro Jk y0 tu;have HM:=Hd.mk (HR.out.mid HG.out.1 HG.out.2 tu (.cells #[.string s1] 9));have H2:=Hd.mk (And.intro y0 tu);clear y0 tu)
     |(at_builtin;refine R3 _ rfl (.tmp 57) (.tmp 59) 67 rfl 9 i0 (.string ⟨#[]⟩) underlying67 my fX cj dt rfl (w.heap.size+4) HM.out.2 _ (Wt++A) rfl HM.out.1 Jk.heap.size s1 rfl ((lh (heap_alloc_new _ _)).trans rfl) lWA ?_;intro vn RU GZ F2))
    have HE:=HR.out.more HG.out.1 HG.out.2 dq kO H2.out.1 H2.out.2 _ GZ F2
    go_roundw
    case rel=>exact⟨A++[s1],_,eD,HE⟩
    case measure=>rw[HE.q.left_eq,HR.out.q.left_eq];exact ax
end Go.Proofs.YtomhopcnkicknaaGreatDoor
