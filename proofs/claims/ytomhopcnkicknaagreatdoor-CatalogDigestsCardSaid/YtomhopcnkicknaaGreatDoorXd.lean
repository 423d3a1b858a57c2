/- catalog.Digest, walked by the kit's own steps. -/
import Derived.Test.YtomhopcnkicknaaGreatDoorXc
import Derived.Test.YtomhopcnkicknaaGreatDoorXh
import Derived.Deep.RegionHeld3
import Derived.Laws.DeepStrings4
set_option linter.unusedVariables false
set_option linter.unusedSimpArgs false
namespace Go.Proofs.YtomhopcnkicknaaGreatDoor
open _root_.Go.Proofs.Tryz
open Go.RowKit Go.Proofs
open Go.Sx (AV Mem RL R M0 Glob)
theorem Ou(l:List ae)(x:ae):Lib.byteCells (dV l).data.toList++Lib.strCells (x++⟨#[10]⟩)=Lib.byteCells (dV (l++[x])).data.toList:=by
 rw[CK,dV,dV,eS,jz,Lib.byteCells_append];rfl
theorem af8(n:Nat)(f:aj):tT n++⟨#[32]⟩++dH f.version++⟨#[32]⟩++kG f=mC n f:=by unfold mC;simp only[eH]
theorem Nl{b o:Nat}{v:Value}{F:Array Value}{t:TypeId}{W W':World}(h:W.cell? ⟨b,o,none⟩=some v∧W.heap[b]? =some (.cells F t (0,0)))(hb:Below W.heap.size W W'):W'.cell? ⟨b,o,none⟩=some v∧W'.heap[b]? =some (.cells F t (0,0)):=
 have e:=hb.block b (Z0.1 h.2).1
 ⟨(World.cell?_of_block (a:=⟨b,o,none⟩) e).trans h.1,e.trans h.2⟩
theorem ac6{b o:Nat}{v:Value}{F:Array Value}{t:TypeId}{W W':World}(h:W.cell? ⟨b,o,none⟩=some v∧W.heap[b]? =some (.cells F t (0,0)))(h1:t≠49)(h2:t≠5)(ho:Em W W'):W'.cell? ⟨b,o,none⟩=some v∧W'.heap[b]? =some (.cells F t (0,0)):=
 have e:=ho _ _ _ _ h1 h2 h.2
 ⟨(World.cell?_of_block (a:=⟨b,o,none⟩) (e.trans h.2.symm)).trans h.1,e⟩
structure Si(a b:Nat):Prop where
 h:a=b
def Eb(M:Mem)(a:Option Addr)(l:List aj):Prop:=∀ i (hi:i<l.length),∃ bb off,a=some ⟨bb,off,none⟩∧∃ cs:List Value,RL M (l.getD i default).cells cs∧cs.length=18∧∀ j (hj:j<cs.length),M bb (off+i * 18+j)=some cs[j]
set_option maxHeartbeats 4000000 in
set_option maxRecDepth 1000000 in
theorem aaH(C:az)(H:Int)(hC:Sx.Pure prog 9 [.agg C.cells] (iv 0))(hD:pn C)(hH:Sx.Pure prog 14 [uh 0,.sl true 1 ((iP C).data.toList.map Sx.dn)] (uh H))
  (M:Mem) (w0:Sx.Base) (w:World) (σ:Sx.Store) (hI:Sx.Inv prog M w0 σ w) (aT:Option Addr) (cT:Nat) (ad:Nat→Option Addr) (cp:Nat→Nat)
  (hR:RL M C.cells [.slice aT C.tables.length cT,.slice (ad 0) (LL C 0).length (cp 0),.slice (ad 1) (LL C 1).length (cp 1),.slice (ad 2) (LL C 2).length (cp 2)])
  (hT:∀ i (hi:i<C.tables.length),∃ bb off,aT=some ⟨bb,off,none⟩∧∃ cs:List Value,RL M (C.tables.getD i default).cells cs∧cs.length=4∧∀ j (hj:j<cs.length),M bb (off+i * 4+j)=some cs[j])
  (hF:∀ n,Eb M (ad n) (LL C n)):
  Calls prog 5 #[.agg #[.slice aT C.tables.length cT,.slice (ad 0) (LL C 0).length (cp 0),.slice (ad 1) (LL C 1).length (cp 1),.slice (ad 2) (LL C 2).length (cp 2)]] w fun e w'=>
   e= .returned (.tuple #[.int .u64 H,.int .i64 0])∧Below w.heap.size w w':=by
 go_enter func5,ntmps5
 go_wp2_with (go_at_call 9;refine(EI hC (hI.after ?bw) (RL.cons (R.qf hR) RL.nil)).mono ?_)
 case bw=>exact(Below.refl _ w).alloc (ZR _) _
 rintro e W1 ⟨rfl,hW⟩
 have cP:Below w.heap.size w W1:=((Below.refl _ w).alloc (ZR _) _).trans (kz hW (by simp))
 have BZ:W1.heap[w.heap.size]? =some (.cells #[.slice aT C.tables.length cT,.slice (ad 0) (LL C 0).length (cp 0),.slice (ad 1) (LL C 1).length (cp 1),.slice (ad 2) (LL C 2).length (cp 2)] 25 (0,0)):=(hW.block _ (by simp)).trans (heap_alloc_new _ _)
 have bC:w.heap.size+1≤W1.heap.size:=by have:=hW.size;simpa using this
 clear hW
 have c0:(W1.alloc (.cells #[.pointer none,.slice none 0 0] 49)).cell? ⟨w.heap.size,0,none⟩=some (.slice aT C.tables.length cT):=by rw[Lib.cell_of_heap ((heap_alloc_old _ _ (by omega)).trans BZ)];rfl
 have htl:=hD.tl
 clear hR hC
 go_wp2
 go_loopw [24] (fun i wr=>∃ k:Nat,k≤C.tables.length∧i= .int .i64 k∧pq W1.heap.size W1.heap.size (Lib.byteCells (dV ((gj C).take k)).data.toList) wr∧Below W1.heap.size W1 wr∧W1.heap.size+1≤wr.heap.size) (fun i _=>C.tables.length-(intOf i).toNat)
 case atStart=>
  refine⟨0,Z1 _,rfl,?_,?_,?_⟩
  ·exact Lib.IsBuilderF.of (Lib.fresh_isBuilder 49 5 W1)
  ·exact(Below.refl _ W1).alloc (ZR _) _
  ·simp
 case round=>
  obtain⟨k,hk,rfl,hB,fU,kP⟩:=hrel
  by_cases cN:k<C.tables.length
  ·obtain⟨bb,off,rfl,cs,iU,hl,hc⟩:=hT k cN
   have tk:=IV rU (l:=C.tables) cN
   have ND:=hD.t _ (Sx.bu cN)
   obtain⟨t,ht⟩:∃ t,t=C.tables.getD k default:=⟨_,rfl⟩
   rw[← ht]at iU tk ND
   clear ht
   obtain⟨a2,n2,c2,rfl⟩:=aL6 iU
   have fK:Below w.heap.size w wr:=cP.trans (kz fU (by omega))
   have hcell:∀ j (hj:j<4),wr.cell? ⟨bb,off+k * 4+j,none⟩=some ([.string t.name,.string t.cv,.slice a2 n2 c2,.int .i64 t.bY][j]'hj):=fun j hj=>(hI.after fK).cQ _ _ _ (hc j hj)
   have e0:=hcell 0 (by decide)
   have e1:=hcell 1 (by decide)
   have e2:=hcell 2 (by decide)
   have e3:=hcell 3 (by decide)
   clear hcell hc
   simp only[YR,Yj,YN]at e0 e1 e2 e3
   go_wp2_with (go_at_call 10;refine(KG (aL9 t) (hI.after ?bw) (RL.cons (R.qf iU) RL.nil)).mono ?_)
   case bw=>exact fK.alloc (Nat.le_of_lt (by omega)) _
   rintro e W2 ⟨rfl,hW⟩
   have fT:Below wr.heap.size wr W2:=((Below.refl _ wr).alloc (ZR _) _).trans (kz hW (by simp))
   have rh:=zH hB fT
   have acH:Below W1.heap.size W1 W2:=fU.trans (kz fT (by omega))
   have nC:W1.heap.size+1≤W2.heap.size:=ZJ kP fT.size
   clear fT hW hB fU kP e0 e1 e2 e3 iU hl BZ c0
   have cj:=IP t
   have dt:=OD hD k
   rw[ND]
   go_wp2_with (go_at_call 11;refine(R6 _ _ _ _ _ rh ?len ?bw2).mono ?_)
   case len=>rw[Lib.byteCells_length,bz];rw[qt]at dt;have h3:(⟨#[10]⟩:ae).size=1:=rfl;omega
   case bw2=>omega
   rintro e W3 ⟨rfl,s6,cx,_⟩
   go_wp2
   go_roundw
   case rel=>
    refine⟨k+1,by omega,by go_num,?_,acH.trans cx,ZJ nC cx.size⟩
    rw[show(gj C).take (k+1)=_ from tk,← Ou];exact s6
   case measure=>simp[intOf];omega
  ·rw[ZU (by rw[gj,Z7];omega)]at hB
   have B0:=(fU.block _ (by omega)).trans BZ
   have c1:wr.cell? ⟨w.heap.size,1,none⟩=some (.slice (ad 0) (LL C 0).length (cp 0)):=by rw[Lib.cell_of_heap B0];rfl
   have c2:wr.cell? ⟨w.heap.size,2,none⟩=some (.slice (ad 1) (LL C 1).length (cp 1)):=by rw[Lib.cell_of_heap B0];rfl
   have c3:wr.cell? ⟨w.heap.size,3,none⟩=some (.slice (ad 2) (LL C 2).length (cp 2)):=by rw[Lib.cell_of_heap B0];rfl
   clear BZ B0 c0
   have hB:pq W1.heap.size W1.heap.size (Lib.byteCells (dV (fO C 0)).data.toList) wr:=hB
   have fK:Below w.heap.size w wr:=cP.trans (kz fU (by omega))
   clear fU cP hT
   generalize hb:W1.heap.size=b at *
   go_wp2
   generalize hA:wr.heap.size=A at *
   have fW:∀ o:Obj,(wr.alloc o).heap[A]? =some o:=fun o=>by rw[← hA];exact heap_alloc_new _ _
   go_loopw [48] (fun i wr=>∃ n:Nat,n≤3∧i= .int .i64 n∧pq b b (Lib.byteCells (dV (fO C n)).data.toList) wr∧Below w.heap.size w wr∧wr.heap[A]? =some (.cells #[.slice (ad 0) (LL C 0).length (cp 0),.slice (ad 1) (LL C 1).length (cp 1),.slice (ad 2) (LL C 2).length (cp 2)] 23 (0,0))∧A+1≤wr.heap.size) (fun i _=>3-(intOf i).toNat)
   case atStart=>
    refine⟨0,Z1 _,rfl,?_,?_,fW _,?_⟩
    ·exact zH hB ((Below.refl _ wr).alloc (ZR _) _)
    ·exact fK.alloc (by omega) _
    ·simp;omega
   case round=>
    obtain⟨n,hn,rfl,hB,fK,fW,kP⟩:=hrel
    by_cases jQ:n<3
    ·obtain⟨N,eN⟩:∃ N,Si n N:=⟨n,⟨rfl⟩⟩
     have hcell:wr.cell? ⟨A,n,none⟩=some (.slice (ad N) (LL C N).length (cp N)):=by
      rw[Lib.cell_of_heap fW,← eN.h]
      match n,jQ with
      |0,_=>rfl
      |1,_=>rfl
      |2,_=>rfl
     have hN:N<3:=eN.h ▸ jQ
     have oI:=hD.ll N
     have Mq:=hF N
     have hDf:=hD.f N hN
     rw[show fO C n=fO C N by rw[eN.h]]at hB
     clear hF
     rcases(by omega:n=0∨n=1∨n=2)with rfl|rfl|rfl
     all_goals
      simp only[show((0:Nat):Int)=0 from rfl,show((1:Nat):Int)=1 from rfl,show((2:Nat):Int)=2 from rfl]
      go_wp2
      go_loopw [55] (fun i wr=>∃ k:Nat,k≤(LL C N).length∧i= .int .i64 k∧pq b b (Lib.byteCells (dV (fO C N++(oS C N).take k)).data.toList) wr∧Below w.heap.size w wr∧wr.heap[A]? =some (.cells #[.slice (ad 0) (LL C 0).length (cp 0),.slice (ad 1) (LL C 1).length (cp 1),.slice (ad 2) (LL C 2).length (cp 2)] 23 (0,0))∧A+1≤wr.heap.size) (fun i _=>(LL C N).length-(intOf i).toNat)
      case atStart=>exact⟨0,Z1 _,rfl,by rw[YB,Zb];exact hB,fK,fW,kP⟩
      case round=>
       obtain⟨k,hk,rfl,hB,fK,fW,kP⟩:=hrel
       by_cases cN:k<(LL C N).length
       ·obtain⟨bb,off,e4,cs,iU,hl,hc⟩:=Mq k cN
        have tk:=IV (mC N) (l:=LL C N) cN
        obtain⟨MX,hs,hv⟩:=hDf _ (Sx.bu cN)
        obtain⟨f,hf⟩:∃ f,f=(LL C N).getD k default:=⟨_,rfl⟩
        rw[← hf]at iU tk MX hs hv
        clear hf
        obtain⟨F,rfl⟩:∃ F:Array Value,cs=F.toList:=⟨cs.toArray,by simp⟩
        have MS:∀ j (hj:j<F.toList.length),wr.cell? ⟨bb,off+k * 18+j,none⟩=some F.toList[j]:=fun j hj=>(hI.after fK).cQ _ _ _ (hc j hj)
        have te:Sx.en prog 44=some (true,F.toList.length):=by rw[hl];kernel_rfl
        have FA:F.size=18:=by rw[← hl,Zi]
        have GQ:(prog.info? 44).map (·.size)=some F.size:=by rw[FA];kernel_rfl
        have oK:F.all (·.oneCell')=true:=by rw[← Array.all_toList];exact iU.uR rfl
        clear hcell Mq
        rw[e4]
        go_wp2_with (first
         |(show wpList _ _ _ (⟨some 58,_,_,_,_,_⟩::_) _ _;refine aM6 rfl 44 (.tmp 57) rfl bb (off+k * 18) rfl F MS te ?_)
         |(show wpList _ _ _ (⟨none,.store _ _ _,_,_,_,_⟩::_) _ _;refine wpList_store_row rfl 44 (.tmp 13) (.tmp 58) rfl wr.heap.size F rfl rfl 44 _ (heap_alloc_new _ _) GQ FA.symm oK ?_)
         |(show wpList _ _ _ (⟨some 60,_,_,_,_,_⟩::_) _ _;refine wpList_load_row rfl 44 (.tmp 13) rfl wr.heap.size rfl 44 F (0,0) _ (setRow_heap _ _ _ _ _ _ (heap_alloc_new _ _)) underlying44 rfl GQ ?_)
         |(go_at_call 12;refine(KG (abK f (by omega)) (hI.after ?bw) (cs:=[.agg F]) (RL.cons (by have:=R.qf iU;rwa [Array.toArray_toList]at this) RL.nil)).mono ?_))
        case bw=>exact fK.trans (kz (uT _ _ _) (by omega))
        rintro e W2 ⟨rfl,hW⟩
        have fT:Below wr.heap.size wr W2:=(uT wr _ F).trans (kz hW (uT wr _ F).size)
        have rh:=zH hB fT
        have vI:Below w.heap.size w W2:=fK.trans (kz fT fK.size)
        have GD:=(fT.block _ (by omega)).trans fW
        have nC:A+1≤W2.heap.size:=ZJ kP fT.size
        have Nv:W2.heap[wr.heap.size]? =some (.cells F 44 (0,0)):=(hW.block wr.heap.size (by simp[World.setRow])).trans (setRow_heap _ _ _ _ _ _ (heap_alloc_new _ _))
        have hvc:W2.cell? ⟨wr.heap.size,17,none⟩=some (.int .i64 f.version):=by
         obtain⟨v,h1,h2⟩:=Sx.RL.get iU (i:=17) (x:=iv f.version) (by rw[aj.lj];rfl)
         rw[Lib.cell_of_heap Nv,h2.aC.symm]
         simpa using h1
        clear fT hW hB fK fW kP iU hl MS te FA GQ oK hc e4
        have cj:=E8 (f:=f) (by omega)
        have dt:=aga hD hN k
        have FJ:∀ W,Below w.heap.size w W→Calls prog 13 #[.int .i64 f.version] W fun e W'=>e= .returned (.string (dH f.version))∧Below W.heap.size W W':=fun W hb=>EI (tQ f.version (by omega)) (hI.after hb) (RL.cons (.v _) RL.nil)
        rw[MX]
        generalize hFB:wr.heap.size=FB at *
        clear hFB
        have hu9:=underlying9
        have MO:Below W2.heap.size W2 W2.drew:=⟨rfl,rfl,rfl,ZR _,fun _ _=>rfl⟩
        have rh:=zH rh MO
        have FJ:=FJ W2.drew ⟨vI.os,vI.tape,vI.output,vI.size,vI.block⟩
        have vA:W2.drew.cell? ⟨FB,17,none⟩=some (.int .i64 f.version)∧W2.drew.heap[FB]? =some (.cells F 44 (0,0)):=⟨hvc,Nv⟩
        have y9:ByteArray.extract ⟨#[102,100,112]⟩ 0 1=⟨#[102]⟩:=rfl
        have zA:ByteArray.extract ⟨#[102,100,112]⟩ 1 2=⟨#[100]⟩:=rfl
        have fM:ByteArray.extract ⟨#[102,100,112]⟩ 2 3=⟨#[112]⟩:=rfl
        have G4:=He hv
        have hz5:∀ c:UInt8,(Lib.byteCells (dV (fO C N++(oS C N).take k)).data.toList).length+((⟨#[c]⟩:ae)++⟨#[32]⟩++dH f.version++⟨#[32]⟩++kG f++⟨#[10]⟩).size≤140737488355328:=fun c=>by
         rw[qt]at dt
         rw[Lib.byteCells_length]
         simp only[bz,aV,Z2,Z8,Z5]
         omega
        have Cy:IntKind.i64.wrap 1=1:=rfl
        have jV:IntKind.i64.wrap 2=2:=rfl
        have hw3:IntKind.i64.wrap 3=3:=rfl
        have vU:¬9223372036854775807<2+ByteArray.size (dH f.version):=by omega
        have iq:¬9223372036854775807<2+ByteArray.size (dH f.version)+1:=by omega
        have hq3:¬9223372036854775807<2+ByteArray.size (dH f.version)+1+ByteArray.size (kG f):=by omega
        have hq4:¬9223372036854775807<2+ByteArray.size (dH f.version)+1+ByteArray.size (kG f)+1:=by omega
        have yB:W2.drew.heap.size=W2.heap.size:=rfl
        have GD:W2.drew.heap[A]? =_:=GD
        go_wp2
        go_region_held3 (fun W=>W.cell? ⟨FB,17,none⟩=some (.int .i64 f.version)∧W.heap[FB]? =some (.cells F 44 (0,0)))
         (first|exact vA|exact Nl vA lE|exact ac6 (Nl vA lE) (by decide) (by decide) Nk)
         (first
          |(go_at_call 13;refine FJ.mono ?_;rintro e W3 ⟨rfl,lE⟩)
          |(go_at_call 11;refine(R6 _ _ _ _ _ (zH rh lE) (hz5 _) (by have:=lE.size;omega)).mono ?_;rintro e W4 ⟨rfl,s6,cx,Nk⟩))
        all_goals
         go_wp2
         go_roundw
         case rel=>
          have l3:=lE.size
          refine⟨k+1,by omega,by go_num,?_,vI.trans ((kz MO (by omega)).trans ((kz lE (by omega)).trans (kz cx (by omega)))),Nk _ _ _ _ (by decide) (by decide) ((lE.block _ (by omega)).trans GD),by have:=cx.size;omega⟩
          have eL:=Zy tT eN.h
          rw[show(oS C N).take (k+1)=_ from tk,← ZB,← Ou,← af8,← eL];exact s6
         case measure=>first|(simp[intOf];done)|(simp[intOf];omega)
       ·obtain rfl:k=(LL C N).length:=by omega
        rw[ZU (by rw[oS,Z7];omega)]at hB
        go_wp2
        go_roundw
        case rel=>exact⟨N+1,by omega,by rw[← eN.h];go_num,hB,fK,fW,kP⟩
        case measure=>first|(simp[intOf];done)|(simp[intOf];omega)
    ·obtain rfl:n=3:=by omega
     obtain⟨cj,dt⟩:=we hD 3 (ZR 3)
     have hz:=aNA (c:=60100) (l:=fO C 3) cj
     go_wp2_with (go_at_call 15;refine(Tryz.Builder_String_any_f _ _ _ _ hB (by omega)).mono ?_)
     rintro e W3 ⟨rfl,_,lE⟩
     have B2:Below w.heap.size w W3:=fK.trans (kz lE (by omega))
     have e3:Value.string ⟨(dV (fO C 3)).data.toList.toArray⟩= .string (iP C):=by simp[iP]
     rw[e3]
     obtain⟨v,W4,M4,F1,yl,hI4,vG⟩:=Xq (s:=iP C) (by unfold iP;omega) (hI.after B2)
     clear hz cj dt hB fW hF
     go_wp2_with (go_at_call 14;refine(EI hH hI4 (RL.cons (.v _) (RL.cons yl RL.nil))).mono ?_)
     rintro e W5 ⟨rfl,BW⟩
     go_wp2
     go_ret2
     exact⟨rfl,B2.trans ((kz vG B2.size).trans (kz BW (ZJ B2.size vG.size)))⟩
end Go.Proofs.YtomhopcnkicknaaGreatDoor
