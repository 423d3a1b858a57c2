/- catalog.Uses, walked. -/
import Derived.Test.YtekngilbecjkhaaGreatDoorCi
set_option linter.unusedVariables false
set_option linter.unusedSimpArgs false
namespace Go.Proofs.YtekngilbecjkhaaGreatDoor
open Go.RowKit Go.Proofs Go.Tb Go.Maps
open Go.Sx (AV Inv Mem RL R M0 Glob)
set_option maxHeartbeats 4000000 in
set_option maxRecDepth 1000000 in
theorem uses_walk(c:Cat)(x:Ex)(hU:USmall c.features x){M:Mem}{w:World}(hI:Inv Tryz.prog M w [] w){Cc Cx:Array Value}(hC:RL M c.cells Cc.toList)(hX:RL M x.cells Cx.toList):
  Calls Tryz.prog 15 #[.agg Cc,.agg Cx] w fun e W'=>∃ v1 v2,e= .returned (.tuple #[v1,v2])∧names W' 9 w.heap.size v1 (usesF c.features x)∧names W' 9 w.heap.size v2 (usesT c.features x)∧Below w.heap.size w W':=by
 have lC:Cc.size=4:=by have:=hC.1;simpa[Cat.cells]using this.symm
 have lX:Cx.size=12:=by have:=hX.1;rw[congrFun Ex.cells_row x]at this;simpa[Ex.row]using this.symm
 have agC:Sx.aggT Tryz.prog 25=some (true,Cc.toList.length):=by rw[Array.length_toList,lC];kernel_rfl
 have agX:Sx.aggT Tryz.prog 37=some (true,Cx.toList.length):=by rw[Array.length_toList,lX];kernel_rfl
 clear lC lX
 obtain⟨w4,hw4⟩:∃ w4,w4=(((w.alloc (.cells Cc 25)).alloc (.cells Cx 37)).alloc (.map #[] 0)).alloc (.map #[] 0):=⟨_,rfl⟩
 have hs4:w4.heap.size=w.heap.size+4:=by rw[hw4];simp
 have hb4:Below w.heap.size w w4:=by rw[hw4];exact(((((Keep.refl w []).alloc _).alloc _).alloc _).alloc _).below (Nat.le_refl _) (by simp)
 have hc4:w4.heap[w.heap.size]? =some (.cells Cc 25 (0,0)):=by
  rw[hw4,heap_alloc_old _ _ (by simp;omega),heap_alloc_old _ _ (by simp;omega),heap_alloc_old _ _ (by simp),heap_alloc_new]
 have hx4:w4.heap[w.heap.size+1]? =some (.cells Cx 37 (0,0)):=by
  rw[hw4,heap_alloc_old _ _ (by simp),heap_alloc_old _ _ (by simp)]
  have:=heap_alloc_new (w.alloc (.cells Cc 25)) (.cells Cx 37)
  simpa using this
 have hn4:SetAt w4 (w.heap.size+2) []:=by
  have:=set_made ((w.alloc (.cells Cc 25)).alloc (.cells Cx 37)) Tryz.prog 9 4
  rw[show((w.alloc (.cells Cc 25)).alloc (.cells Cx 37)).heap.size=w.heap.size+2 by simp]at this
  rw[hw4];exact this.alloc _
 have ht4:SetAt w4 (w.heap.size+3) []:=by
  have:=set_made (((w.alloc (.cells Cc 25)).alloc (.cells Cx 37)).alloc (.map #[] 0)) Tryz.prog 9 4
  rw[show(((w.alloc (.cells Cc 25)).alloc (.cells Cx 37)).alloc (.map #[] 0)).heap.size=w.heap.size+3 by simp]at this
  rw[hw4];exact this
 have lx:=row_cells hx4
 have hmm:= @run_makeMap Tryz.prog
 have hUn:=hU.n
 have hUt:=hU.t
 have hDir:=direct_ok x.size x (Nat.le_refl _) M w4 (c_inv hI hb4) Cx hX (w.heap.size+2) (w.heap.size+3) [] [] hn4 ht4 (by omega) (by unfold univ at hUn;rw[List.length_append]at hUn;simp;omega) (by unfold univT at hUt;rw[List.length_append]at hUt;simp;omega)
  (fun s hs=>hU.sn s (List.mem_append_left _ hs)) (fun s hs=>hU.st s (List.mem_append_left _ hs))
 obtain⟨Rel,hRel⟩:∃ Rel:Nat→Value→World→Prop,∀ n v wr,Rel n v wr↔∃ N T Wt,USt w Cc N T Wt wr v∧UInv c.features x N T Wt∧n=((univ c.features x.feats).length-N.length)+Wt.length:=⟨_,fun _ _ _=>Iff.rfl⟩
 have hStart:∀ (w5 w7:World) (v:Value) (S:List Str),SetAt w5 (w.heap.size+2) (insAll [] x.feats)→SetAt w5 (w.heap.size+3) (insAll [] x.tabs)→Keep w4 w5 [w.heap.size+2,w.heap.size+3]→Srt S→(∀ s,s∈S↔s∈insAll [] x.feats)→names w7 9 (w5.heap.size+1) v S→
   Below (w5.heap.size+1) (w5.alloc (.cells #[.map (some (w.heap.size+2))] 70)) w7→∃ n,Rel n v w7:=fun w5 w7 v S h1 h2 h3 h4 h5 h6 h7=>by
  have g1:=h3.size
  have lF:=h1.lt
  have lT:=h2.lt
  have e:(w5.alloc (.cells #[.map (some (w.heap.size+2))] 70)).heap.size=w5.heap.size+1:=by simp
  have k7:Keep w5 w7 []:=((Keep.refl w5 []).alloc _).trans (Keep.of_below (by rw[← e]at h7;exact h7) []) (by simp)
  refine⟨_,(hRel _ _ _).2 ⟨insAll [] x.feats,insAll [] x.tabs,S,⟨h6.mono (by omega),set_keep h1 k7 (by simp),set_keep h2 k7 (by simp),?_,?_⟩,⟨fun n hn=>insAll_mem.2 (.inl hn),fun n hn=>insAll_mem.2 (.inl hn),fun n hn=> ?_,fun n hn=> ?_,fun n hn=>(h5 n).1 hn,fun n hn=> .inl ((h5 n).2 hn),insAll_nodup .nil,insAll_nodup .nil,nodup_le (srt_nodup h4) fun n hn=>(h5 n).1 hn⟩,rfl⟩⟩
  ·exact(hb4.trans (h3.below (by omega) (by simp))).trans (k7.below (by omega) (by simp))
  ·rw[k7.block _ (by omega) (by simp),h3.block _ (by omega) (by simp)];exact hc4
  ·rcases insAll_mem.1 hn with h|h
   ·exact .base h
   ·cases h
  ·rcases insAll_mem.1 hn with h|h
   ·exact .inl h
   ·cases h
 rw[hw4]at hDir lx
 rw[hw4]at hStart
 have HStart:=Hd.mk hStart
 have HRel:=Hd.mk hRel
 have HDir:=Hd.mk hDir
 have HB:=Hd.mk hI
 have HU:=Hd.mk hU
 clear hStart hRel hDir hI hU hb4 hc4 hx4 hn4 ht4 hs4 hw4
 go_enter Tryz.func15,Tryz.ntmps15
 go_wp2_with (first
  |(show wpList _ _ _ (⟨some 16,_,_,_,_,_⟩::_) _ _;refine c_load rfl 37 (.tmp 3) rfl (w.heap.size+1) 0 rfl Cx lx agX ?_)
  |(go_at_call 45;refine HDir.out.mono ?_;rintro e w5 ⟨⟨v5,rfl⟩,hn5,ht5,hk5⟩;have hl5:(insAll [] x.feats).length≤4398046511104:=(by have:=insAll_len x.feats [];unfold univ at hUn;rw[List.length_append]at hUn;simp at this;omega))
  |(go_at_call 47;refine(keysB_call (w.heap.size+2) _).mono ?_;rintro e w6 ⟨rfl,rfl⟩)
  |(go_at_call 46;refine(sortedB_call hn5 hl5).mono ?_;rintro e w7 ⟨v7,S7,rfl,hs7,hm7,hv7,hb7⟩;have hr7:=HStart.out w5 w7 v7 S7 hn5 ht5 hk5 hs7 hm7 hv7 hb7;clear HDir HStart lx hn5 ht5 hk5 hs7 hm7 hv7 hb7 hl5))
 go_loopw [8] (fun v wr=>∃ n,Rel n v wr) (fun v wr=>mu (fun n=>Rel n v wr))
 case atStart=>exact hr7
 obtain⟨N,T,Wt,hS,hI',hn⟩:=(HRel.out _ _ _).1 (mu_spec hrel)
 clear hr7 hrel
 cases Wt with
 |nil=>
  obtain⟨a0,cap0,rfl⟩:=hS.v.shape
  have hlN:N.length≤4398046511104:=by have:=hI'.lenN;omega
  have hlT:T.length≤4398046511104:=by have:=hI'.lenT;omega
  go_wp2_with (first
   |(go_at_call 47;refine(keysB_call _ _).mono ?_;rintro e w6 ⟨rfl,rfl⟩)
   |(go_at_call 46;first|(refine(sortedB_call hS.n hlN).mono ?_;rintro e w8 ⟨v8,S8,rfl,hs8,hm8,hv8,hb8⟩;have ht8:SetAt w8 (w.heap.size+3) T:=set_keep hS.t (((Keep.refl wr []).alloc _).trans (Keep.of_below (by simpa using hb8) []) (by simp)) (by simp))|(refine(sortedB_call ht8 hlT).mono ?_;rintro e w9 ⟨v9,S9,rfl,hs9,hm9,hv9,hb9⟩)))
  go_ret2
  have hu:=hI'.done hs8 hm8 hs9 hm9
  have b8:=below_alloc hb8
  have b9:=below_alloc hb9
  have lw:=hS.k.size
  exact⟨v8,v9,rfl,hu.1 ▸ names_below (hv8.mono (by omega)) b9,hu.2 ▸ hv9.mono (by have:=b8.size;omega),(hS.k.trans (c_less b8 lw)).trans (c_less b9 (by have:=b8.size;omega))⟩
 |cons s Wt=>
  obtain⟨g0,off0,cap0,rfl,hg0⟩:=hS.v.head
  have HFeat:=Hd.mk (feature_call c (c_inv HB.out hS.k) hC s)
  have HC:=Hd.mk (row_cells hS.c)
  have HL:Hd (∀ (N' Wt' T':List Str) (v':Value) (w':World),USt w Cc N' T' Wt' w' v'→UInv c.features x N' T' Wt'→((univ c.features x.feats).length-N'.length)+Wt'.length<((univ c.features x.feats).length-N.length)+(s::Wt).length→(∃ n,Rel n v' w')∧(mu fun n=>Rel n v' w')<mu fun n=>Rel n (Value.slice (some ⟨g0,off0,none⟩) (Wt.length+1) cap0) wr):=⟨fun N' Wt' T' v' w' h1 h2 h3=>by
   have h4:=(HRel.out _ v' w').2 ⟨N',T',Wt',h1,h2,rfl⟩
   exact⟨⟨_,h4⟩,mu_lt h4 (by rw[hn];exact h3)⟩⟩
  have HS:=Hd.mk hS
  have HI:=Hd.mk hI'
  clear hn HRel hS hI' hUn hUt
  go_wp2_with (first
   |(show wpList _ _ _ (⟨some 30,_,_,_,_,_⟩::_) _ _;refine wp_tail _ rfl 39 (.tmp 29) rfl 9 Tryz.underlying39 Tryz.sizeOf9 (w.heap.size+4) _ s Wt rfl HS.out.v ?_;intro vt hvt)
   |(show wpList _ _ _ (⟨some 32,_,_,_,_,_⟩::_) _ _;refine c_load rfl 25 (.tmp 2) rfl w.heap.size 0 rfl Cc HC.out agC ?_)
   |(go_at_call 24;refine HFeat.out.mono ?_;rintro e w1 ⟨M1,Cf,bf,rfl,hI1,hb1,hz1,ho1,hcase⟩;clear HFeat HC;have hsz1:(Tryz.prog.info? 49).map (·.size)=some Cf.size:=(by rw[hz1];kernel_rfl);have agB:Hd (Sx.aggT Tryz.prog 37=some (true,((Cf.toList.drop 5).take 12).toArray.toList.length)):=⟨by rw[body_len hz1];kernel_rfl⟩;rcases hcase with⟨rfl,hf⟩|⟨f,rfl,hf,hRf⟩)
   |(show wpList _ _ _ (⟨none,.store _ _ _,_,_,_,_⟩::_) _ _;refine wpList_store_row rfl 49 (.tmp 10) (.tmp 35) rfl w1.heap.size Cf rfl rfl 49 _ (heap_alloc_new _ _) hsz1 hz1.symm ho1 ?_;generalize hw2:(World.setRow (World.alloc w1 _) w1.heap.size Cf)=w2;have hk2:Below w1.heap.size w1 w2:=hw2 ▸ below_row _ _ _;have hr2:w2.heap[w1.heap.size]? =some (.cells Cf 49 (0,0)):=hw2 ▸ setRow_heap _ _ _ _ _ _ (heap_alloc_new _ _);have hs2:w2.heap.size=w1.heap.size+1:=hw2 ▸ (by simp[World.setRow]);clear hw2)
   |(show wpList _ _ _ (⟨some 41,_,_,_,_,_⟩::_) _ _;refine c_load rfl 37 (.tmp 40) rfl w1.heap.size 5 rfl ((Cf.toList.drop 5).take 12).toArray (body_cells _ hr2 hz1) agB.out ?_)
   |(go_at_call 45;refine(uses_dir HU.out HS.out HI.out hb1 hI1 hk2 hs2 hf hRf).mono ?_;rintro e w3 ⟨⟨v3,rfl⟩,hm3,ht3,hn3,hv3,hk3,hc3,hlt3⟩;have hv3:=hv3 _ hvt)
   |(at_range;refine wp_range _ rfl _ 70 rfl Tryz.underlying9 4 Tryz.underlying70 (plainElem Tryz.prog 4) (w1.heap.size+1) (insAll [] f.body.feats) (fun _=>tt) rfl hm3 ?_;intro w4r cnt0 hrg0 hg0 hsz0))
  ·go_roundw
   case rel=>exact(HL.out N Wt T vt w2 ⟨names_below hvt (hb1.trans (c_less hk2 hb1.size)),set_below HS.out.n (hb1.trans (c_less hk2 hb1.size)),set_below HS.out.t (hb1.trans (c_less hk2 hb1.size)),HS.out.k.trans (c_less (hb1.trans (c_less hk2 hb1.size)) HS.out.k.size),by rw[(hb1.trans (c_less hk2 hb1.size)).block _ (Array.getElem?_eq_some_iff.1 HS.out.c).1];exact HS.out.c⟩ (HI.out.skip hf) (by simp only[List.length_cons];omega)).1
   case measure=>exact(HL.out N Wt T vt w2 ⟨names_below hvt (hb1.trans (c_less hk2 hb1.size)),set_below HS.out.n (hb1.trans (c_less hk2 hb1.size)),set_below HS.out.t (hb1.trans (c_less hk2 hb1.size)),HS.out.k.trans (c_less (hb1.trans (c_less hk2 hb1.size)) HS.out.k.size),by rw[(hb1.trans (c_less hk2 hb1.size)).block _ (Array.getElem?_eq_some_iff.1 HS.out.c).1];exact HS.out.c⟩ (HI.out.skip hf) (by simp only[List.length_cons];omega)).2
  have hU0:=UIn.start ht3 hn3 hv3 hk3 hc3 (by have:=HS.out.t.lt;omega) hrg0 hg0
  have HI1:=Hd.mk (HU.out.n)
  have hlf:=(feats_len (x:=x) hf)
  clear hI1 hb1 hz1 ho1 hsz1 agB hRf hk2 hr2 hs2 hm3 ht3 hn3 hv3 hk3 hc3 hrg0 hg0 hsz0
  obtain⟨wo,rfl⟩:∃ wo:World,wo=wr:=⟨wr,rfl⟩
  go_frame
  go_loopw [8] (fun v wr=>∃ A left cnt,UIn w Cc (w1.heap.size+1) w3.heap.size (insAll [] f.body.feats) N (insAll T f.body.tabs) Wt A left cnt wr v) (fun _ wr=>wr.rangeLeft (w1.heap.size+1) w3.heap.size)
  case atStart=>exact⟨[],_,cnt0,hU0⟩
  clear hU0
  obtain⟨A,left,cnt,hR⟩:=hrel
  have HR:=Hd.mk hR
  obtain⟨lA,lN,lW⟩:=UIn.lens HU.out hf HI.out hR
  have lNA:(N++A).length≤549755813888:=by rw[List.length_append];omega
  have lWA:(Wt++A).length+1≤4398046511104:=by rw[List.length_append];omega
  clear hR
  obtain⟨i0,hi0,hz0,hz1,hz2⟩:=info_parts strInfo
  have hmx:(549755813888:Nat)<maxLen:=by decide
  have hnd:=hf
  go_wp2_with (first
   |(at_next;refine wp_next _ rfl (.tmp 46) rfl Tryz.underlying9 (plainElem Tryz.prog 4) (fun _=> .bool true) (w1.heap.size+1) w3.heap.size (insAll [] f.body.feats) (fun _=>tt) (fun s _ v ps h=>bool_inv Tryz.underlying4 h) left cnt rfl HR.out.q ?_ ?_))
  ·intro hd
   go_wp2
   have hE:=UIn.end_ HI.out hf HR.out hd
   have hE3:=hE.2.lenN
   have hEL:=HL.out _ _ _ _ _ hE.1 hE.2 (by simp only[List.length_append,List.length_cons]at *;omega)
   go_roundw
   case rel=>exact hEL.1
   case measure=>exact hEL.2
  ·intro s1 w' cnt' hsL hleft hrg1 hlt hg1 hsz1 hen
   have hss:s1.size≤maxLen:=hrg1.2.1 s1 hsL
   have HN:=Hd.mk (HR.out.next hrg1 hg1)
   have HG:=Hd.mk (And.intro hrg1 hg1)
   clear hrg1 hg1
   have HLR:Hd (w'.rangeLeft (w1.heap.size+1) w3.heap.size<wr.rangeLeft (w1.heap.size+1) w3.heap.size):=⟨by rw[HG.out.1.left_eq,HR.out.q.left_eq];exact hlt⟩
   by_cases hin:s1∈N++A
   ·go_wp2_with (at_lookup;refine wp_in _ rfl _ _ 70 rfl Tryz.underlying9 Tryz.underlying4 Tryz.underlying70 (Tryz.zeroValue4 _) (w.heap.size+2) (N++A) rfl HN.out.2.1 s1 rfl hss ?_;rw[decide_eq_true hin])
    go_roundw
    case rel=>exact⟨A,_,cnt',HR.out.stay HG.out.1 HG.out.2 hin⟩
    case measure=>exact HLR.out
   ·go_wp2_with (first
     |(at_lookup;refine wp_in _ rfl _ _ 70 rfl Tryz.underlying9 Tryz.underlying4 Tryz.underlying70 (Tryz.zeroValue4 _) (w.heap.size+2) (N++A) rfl HN.out.2.1 s1 rfl hss ?_;rw[decide_eq_false hin])
     |(at_mapUpdate;refine wp_add _ rfl _ _ _ 70 rfl Tryz.underlying9 Tryz.underlying4 Tryz.underlying70 (w.heap.size+2) (N++A) rfl HN.out.2.1 (by omega) s1 rfl hss rfl ?_;intro w2' hset2 hg2';have HM:=Hd.mk (HR.out.mid HG.out.1 HG.out.2 hg2' (.cells #[.string s1] 9));have H2:=Hd.mk (And.intro hset2 hg2');clear hset2 hg2')
     |(at_builtin;refine wp_append1 _ rfl (.tmp 57) (.tmp 59) 39 rfl 9 i0 (.string ⟨#[]⟩) Tryz.underlying39 hi0 hz0 hz1 hz2 rfl (w.heap.size+4) HM.out.2 _ (Wt++A) rfl HM.out.1 w2'.heap.size s1 rfl ((cell_at (heap_alloc_new _ _)).trans rfl) lWA ?_;intro vn w5' hvn hcw))
    have HE:=HR.out.more HG.out.1 HG.out.2 hin hsL H2.out.1 H2.out.2 _ hvn hcw
    go_roundw
    case rel=>exact⟨A++[s1],_,cnt',HE⟩
    case measure=>rw[HE.q.left_eq,HR.out.q.left_eq];exact hlt
end Go.Proofs.YtekngilbecjkhaaGreatDoor
