/- slices.Clone and slices.Insert of features, by the library's own steps. -/
import Derived.Test.YtajimcniogfpcaaGreatDoorAb
import Derived.Shelf.RegionOpenPlain
import Derived.WalkKit
import Derived.Lib.Walk
import Derived.Lib.SliceRun
import Derived.Lib.AppendZerosOnto
import Derived.Lib.Overlaps
import Derived.Laws.Externs
import Derived.Maps.AppendAt
import Derived.Shelf.Spec.SlicesInsert
import Derived.Test.YtajimcniogfpcaaGreatDoorProg
set_option linter.unusedSimpArgs false
set_option linter.unusedVariables false
set_option maxRecDepth 100000
set_option maxHeartbeats 4000000
namespace Go.Proofs.YtajimcniogfpcaaGreatDoor
open _root_.Go.Proofs.Tryz
open Go.RowKit Go.Proofs Go.Shelf
def zF:Value:= .agg #[.string ⟨#[]⟩,.string ⟨#[]⟩,.int .i64 0,.slice none 0 0,.string ⟨#[]⟩,.int .i64 0,.string ⟨#[]⟩,.string ⟨#[]⟩,.string ⟨#[]⟩,.int .i64 0,.int .i64 0,.string ⟨#[]⟩,.slice none 0 0,.int .i64 0,.int .i64 0,.int .i64 0,.slice none 0 0,.int .i64 0]
theorem xz:(prog.info? 40).map (fun i=>(i.zero,i.size,i.bytes))=some (some zF,18,248):=by kernel_rfl
theorem yz:zF.cells.size=18:=by kernel_rfl
theorem afu{w:World}{n vb g cap:Nat}{vs:List Value}{cur cI:Array Value}{ta tb:TypeId}(hg:w.heap[g]? =some (.cells cI ta (0,0)))(cC:cI.size=cap * 18)(dU:n+1≤cap)(gW:cap≤maxLen)
  (hv:w.heap[vb]? =some (.cells cur tb (0,0))) (hc:cur.toList=vs) (hl:vs.length=18) (h1:∀ u∈vs,u.oneCell'=true):
  Calls prog 160 #[.slice (some ⟨g,0,none⟩) n cap,.int .i64 n,.slice (some ⟨vb,0,none⟩) 1 1] w fun e w'=>e= .returned (.slice (some ⟨g,0,none⟩) (n+1) cap)∧w'=w.setCells g (n * 18) vs:=by
 obtain⟨i0,eB,ep,fK,pk⟩:=info_parts xz
 have cY:∀ ty,(Builtin.append_ #[23,23] ty #[.slice (some ⟨g,0,none⟩) n cap,.slice (some ⟨vb,0,none⟩) 1 1]).run prog w= .ok (.slice (some ⟨g,0,none⟩) (n+1) cap) (w.setCells g (n * 18) vs):=fun ty=>by
  rw[run_append_room_cells w 23 ty 40 i0 underlying23 eB g 0 n cap ⟨vb,0,none⟩ 1 1 vs (by rw[fK,hl]) (fun j u hj=>by
    rw[Addr.add_lit,ZA]
    simp only[World.cell?,hv]
    rw[← hc,Za]at hj
    exact hj) h1 dU (fun j hj=>by
    simp only[World.cell?,hg]
    simp[cC,fK]
    omega) (fun j hj=>by simp[World.frozen?,hg]),fK,ZA]
 unfold maxLen at gW
 clear hg hv hc cC
 go_enter func160,ntmps160
 go_wp2_with (at_builtin;refine Lib.wpList_append_run _ rfl _ _ _ _ rfl _ _ rfl rfl _ _ (cY _) ?_)
 all_goals(go_ret;exact⟨rfl,rfl⟩)
theorem RH{w:World}{n vb cap:Nat}{base:Option Addr}{xs vs:List Value}{cur:Array Value}{tb:TypeId}(dp:xs.length=n * 18)(hx:∀ w':World,w'.heap=w.heap→(Builtin.firstCells 18 n (.slice base n cap)).run prog w'= .ok xs.toArray w')(hb:base=none→n=0∧cap=0)(EY:n≤cap)(dU:cap<n+1)(hn:n≤100000)
  (hv:w.heap[vb]? =some (.cells cur tb (0,0))) (hc:cur.toList=vs) (hl:vs.length=18) (h1:∀ u∈vs,u.oneCell'=true):
  Calls prog 160 #[.slice base n cap,.int .i64 n,.slice (some ⟨vb,0,none⟩) 1 1] w fun e w'=>∃ (G:Nat) (ROW:Array Value),n+1≤G∧G≤maxLen∧ROW.size=G * 18∧ROW.toList.take ((n+1) * 18)=xs++vs∧e= .returned (.slice (some ⟨w.heap.size,0,none⟩) (n+1) G)∧w'=(w.alloc (.cells ROW 40)).drew:=by
 obtain⟨i0,eB,ep,fK,pk⟩:=info_parts xz
 have rX:Src prog i0.size 23 (.slice (some ⟨vb,0,none⟩) 1 1) 1 vs w:=by
  rw[fK]
  exact Src.ofSlice w underlying23 ⟨vb,0,none⟩ 1 1 vs (by omega) (fun j u hj=>by
   rw[Addr.add_lit,ZA]
   simp only[World.cell?,hv]
   rw[← hc,Za]at hj
   exact hj) h1
 have hold:=hx w.drew rfl
 rw[← fK]at hold
 have kC:n+1≤grownCap w (n+1) cap 40:=grownCap_ge w _ _ _
 have jU:grownCap w (n+1) cap 40≤maxLen:=grownCap_le_maxLen w (n+1) cap 40 (by unfold maxLen;omega)
 have cY:∀ ty,(Builtin.append_ #[23,23] ty #[.slice base n cap,.slice (some ⟨vb,0,none⟩) 1 1]).run prog w= .ok (.slice (some ⟨w.heap.size,0,none⟩) (n+1) (grownCap w (n+1) cap 40)) (w.drew.alloc (.cells ((xs++vs).toArray++Builtin.zeroCells zF.cells (grownCap w (n+1) cap 40-(n+1))) 40)):=fun ty=>
  run_append_grow_src w 23 23 ty 40 i0 _ underlying23 eB ep base n cap xs hold _ 1 vs rX dU (by omega) (by rw[pk];exact growslice_fits dU (by omega))
 obtain⟨G,hG⟩:∃ G,G=grownCap w (n+1) cap 40:=⟨_,rfl⟩
 obtain⟨ROW,gS⟩:∃ ROW:Array Value,ROW=(xs++vs).toArray++Builtin.zeroCells zF.cells (G-(n+1)):=⟨_,rfl⟩
 rw[← hG]at cY kC jU
 rw[← gS]at cY
 have mN:ROW.size=G * 18:=by
  rw[gS]
  simp only[Xr,ZS,Z9,dp,hl,Builtin.zeroCells,Array.size_map,Array.size_range,yz]
  omega
 have oX:ROW.toList.take ((n+1) * 18)=xs++vs:=by
  rw[gS]
  simp only[Array.toList_append]
  exact YW (by rw[Z9,dp,hl];omega)
 refine(?_:Calls _ _ _ _ _).mono (fun e w' h=>⟨G,ROW,kC,jU,mN,oX,h⟩)
 clear gS hG mN oX dp
 clear hold rX hx hv hc kC jU
 go_enter func160,ntmps160
 cases base with
 |none=>
  obtain⟨rfl,rfl⟩:=hb rfl
  go_wp2_with (at_builtin;refine Lib.wpList_append_run _ rfl _ _ _ _ rfl _ _ rfl rfl _ _ (cY _) ?_)
  all_goals(go_ret;exact⟨rfl,rfl⟩)
 |some a=>
  obtain⟨ab,ao,ek⟩:=a
  go_wp2_with (at_builtin;refine Lib.wpList_append_run _ rfl _ _ _ _ rfl _ _ rfl rfl _ _ (cY _) ?_)
  all_goals(go_ret;exact⟨rfl,rfl⟩)
theorem afw{w:World}{n i vb g cap:Nat}{xs vs:List Value}{cur cI:Array Value}{ta tb:TypeId}(hg:w.heap[g]? =some (.cells cI ta (0,0)))(cC:cI.size=cap * 18)(jk:cI.toList.take (n * 18)=xs)(la:∀ u∈xs,u.oneCell'=true)(hi:i<n)(dU:n+1≤cap)(gW:cap≤maxLen)(aH:vb≠g)
  (hv:w.heap[vb]? =some (.cells cur tb (0,0))) (hc:cur.toList=vs) (hl:vs.length=18) (h1:∀ u∈vs,u.oneCell'=true):
  Calls prog 160 #[.slice (some ⟨g,0,none⟩) n cap,.int .i64 i,.slice (some ⟨vb,0,none⟩) 1 1] w fun e w'=>e= .returned (.slice (some ⟨g,0,none⟩) (n+1) cap)∧w'=(w.drew.setCells g ((i+1) * 18) (xs.drop (i * 18))).setCells g (i * 18) vs:=by
 unfold maxLen at gW
 have dp:xs.length=n * 18:=by rw[← jk,ZQ,Zv,cC,X0 (Y0 _ (by omega))]
 have hcell:∀ j u,vs[j]? =some u→w.cell? ⟨vb,j,none⟩=some u:=fun j u hj=>by
  simp only[World.cell?,hv]
  rw[← hc,Za]at hj
  exact hj
 have iu:∀ j u,xs[j]? =some u→w.cell? ⟨g,j,none⟩=some u:=fun j u hj=>by
  simp only[World.cell?,hg]
  rw[← jk,YU]at hj
  split at hj
  ·rw[Za]at hj;exact hj
  ·cases hj
 have dM:∀ j,j<cap * 18→(w.cell? ⟨g,j,none⟩).isSome=true:=fun j hj=>by
  simp only[World.cell?,hg]
  simp[cC,hj]
 have hfz:∀ j,w.frozen? ⟨g,j,none⟩=false:=fun j=>by simp[World.frozen?,hg]
 have xq:w.shape? vb=some (tb,cur.size):=by simp[World.shape?,hv]
 have KI:w.shape? g=some (ta,cI.size):=by simp[World.shape?,hg]
 have rN:∀ o,w.frozen? ⟨vb,o,none⟩=false:=fun o=>by simp[World.frozen?,hv]
 have Km:cI.size≠0:=by rw[cC];omega
 clear hg hv hc jk cC
 have aY:(prog.info? 40).map (·.size)=some 18:=by
  obtain⟨i0,eB,h0,h1,h2⟩:=info_parts xz
  rw[eB];simp[h1]
 have Cu:∀ lb cb o,(callFunc 199 #[.slice (some ⟨vb,0,none⟩) 1 1,.slice (some ⟨g,o,none⟩) lb cb]).run prog w= .ok (.value (.bool false)) w:=fun lb cb o=>by
  rw[run_callFunc_extern func199 (by kernel_rfl) (by kernel_rfl) (by kernel_rfl) (e:=Extern.SlicesOverlaps.overlaps #[23,23] #[4]) (by kernel_rfl),
   Lib.run_overlaps_apart w 23 4 40 underlying23 18 sizeOf40 ⟨vb,0,none⟩ ⟨g,o,none⟩ 1 1 lb cb aH _ _ _ _ xq KI Km (rN _) (rN _)]
  rfl
 have jy:(xs.drop (i * 18)).length=(n-i) * 18:=by rw[YN,dp,Nat.sub_mul]
 have uW:IntKind.i64.wrap ((i:Int)+1)=(i:Int)+1:=by rw[IntKind.wrap_i64];omega
 have mX:IntKind.i64.wrap ((n:Int)+1)=(n:Int)+1:=by rw[IntKind.wrap_i64];omega
 have fz:¬((i:Int)=(n:Int)):=by omega
 have mO:(0:Int)≤(i:Int)+1:=by omega
 have dS:i≤n:=by omega
 have rZ:((i:Int)+1).toNat=i+1:=by omega
 have mixed:prog.follows Departure.mixedOrders=true:=by kernel_rfl
 have dK:¬(cap=i+1):=by omega
 have wY:(i:Int)≤(n:Int)+1:=by omega
 have hb4:¬(cap=i):=by omega
 have lV:Nat.min 1 (n+1-i)=1:=by simp only[W9];split<;>omega
 have eT:Nat.min (n+1-i) (n-i)=n-i:=by simp only[W9];split<;>omega
 have B9:∀ ty dc sc,(Builtin.copy_ #[23,23] ty #[.slice (some ⟨g,(i+1) * 18,none⟩) (n-i) dc,.slice (some ⟨g,i * 18,none⟩) (n+1-i) sc]).run prog w.drew= .ok (goInt ((n-i:Nat):Int)) (w.drew.setCells g ((i+1) * 18) (xs.drop (i * 18))):=fun ty dc sc=>by
  rw[vD w.drew _ _ ty 40 g ((i+1) * 18) (n-i) dc ⟨g,i * 18,none⟩ (n+1-i) sc 18 (xs.drop (i * 18)) underlying23 aY (by rw[jy,eT])
   (fun j v hj=>by rw[Addr.add_lit];exact iu (i * 18+j) v (by rwa [YF]at hj))
   (fun j hj=>dM _ (by rw[jy]at hj;omega)) (fun j hj=>hfz _) (fun v hv=>la v (Yx hv)),eT]
 obtain⟨W1,fx⟩:∃ W1,W1=w.drew.setCells g ((i+1) * 18) (xs.drop (i * 18)):=⟨_,rfl⟩
 have CA:∀ k,k<cap * 18→(W1.cell? ⟨g,k,none⟩).isSome=true:=fun k hk=>by
  rw[fx]
  by_cases dS:(i+1) * 18≤k∧k<(i+1) * 18+(xs.drop (i * 18)).length
  ·have:=World.cell?_setCells_in g (xs.drop (i * 18)) ((i+1) * 18) w.drew (fun j hj=>dM _ (by rw[jy]at hj;omega)) (k-(i+1) * 18) (by omega)
   rw[show(i+1) * 18+(k-(i+1) * 18)=k by omega]at this
   rw[this];rfl
  ·rw[World.cell?_setCells_out g _ _ _ ⟨g,k,none⟩ (fun _ _=>by show k<(i+1) * 18∨(i+1) * 18+(xs.drop (i * 18)).length≤k;omega)]
   exact dM k hk
 have J2:∀ (W:World),(∀ x,W.cell? x=W1.cell? x)→(∀ x,W.frozen? x=W1.frozen? x)→∀ ty dc,(Builtin.copy_ #[23,23] ty #[.slice (some ⟨g,i * 18,none⟩) (n+1-i) dc,.slice (some ⟨vb,0,none⟩) 1 1]).run prog W= .ok (goInt 1) (W.setCells g (i * 18) vs):=fun W jV oZ ty dc=>by
  rw[vD W _ _ ty 40 g (i * 18) (n+1-i) dc ⟨vb,0,none⟩ 1 1 18 vs underlying23 aY (by rw[hl,lV])
   (fun j v hj=>by
    rw[Addr.add_lit,jV,fx,ZA,World.cell?_setCells_out g _ _ _ _ (fun h _=>absurd h aH)]
    exact hcell j v hj)
   (fun j hj=>by rw[jV];exact CA _ (by omega)) (fun j hj=>by rw[oZ,fx,World.frozen?_setCells];exact hfz _) h1,lV];rfl
 rw[← fx]at B9
 clear dp iu dM CA hfz jy aY hcell
 go_enter func160,ntmps160
 go_wp2_with (simp only[Cu])
 go_region_law_o (refine step_copy_runI rfl _ _ 23 23 rfl _ _ (by simp[Act.eval,Act.put]) (by simp[Act.eval,Act.put]) (B9 _ _ _) ?_)
 go_wp2_with (at_builtin;refine wpList_copy_runI _ rfl _ _ 23 23 rfl _ _ rfl rfl (J2 _ (fun _=>rfl) (fun _=>rfl) _ _) ?_)
 go_ret
 first|exact⟨rfl,rfl⟩|fail
theorem afq{w:World}{n i vb g cap:Nat}{xs vs:List Value}{cur cI:Array Value}{ta tb:TypeId}(hg:w.heap[g]? =some (.cells cI ta (0,0)))(cC:cI.size=cap * 18)(jk:cI.toList.take (n * 18)=xs)(la:∀ u∈xs,u.oneCell'=true)(hi:i<n)(EY:n≤cap)(dU:cap<n+1)(hn:n≤100000)
  (hv:w.heap[vb]? =some (.cells cur tb (0,0))) (hc:cur.toList=vs) (hl:vs.length=18) (h1:∀ u∈vs,u.oneCell'=true):
  Calls prog 160 #[.slice (some ⟨g,0,none⟩) n cap,.int .i64 i,.slice (some ⟨vb,0,none⟩) 1 1] w fun e w'=>∃ (G:Nat) (ROW:Array Value),n+1≤G∧G≤maxLen∧ROW.size=G * 18∧ROW.toList.take (i * 18)=xs.take (i * 18)∧e= .returned (.slice (some ⟨w.heap.size,0,none⟩) (n+1) G)∧w'=((((w.alloc (.cells ROW 40)).drew).setCells w.heap.size (i * 18) vs).drew).setCells w.heap.size ((i+1) * 18) (xs.drop (i * 18)):=by
 obtain⟨i0,eB,ep,fK,pk⟩:=info_parts xz
 have dp:xs.length=n * 18:=by rw[← jk,ZQ,Zv,cC,X0 (Y0 _ (by omega))]
 have hcell:∀ j u,vs[j]? =some u→w.cell? ⟨vb,j,none⟩=some u:=fun j u hj=>by
  simp only[World.cell?,hv]
  rw[← hc,Za]at hj
  exact hj
 have iu:∀ j u,xs[j]? =some u→w.cell? ⟨g,j,none⟩=some u:=fun j u hj=>by
  simp only[World.cell?,hg]
  rw[← jk,YU]at hj
  split at hj
  ·rw[Za]at hj;exact hj
  ·cases hj
 have mQ:g<w.heap.size:=(ZX.1 hg).1
 have KT:vb<w.heap.size:=(ZX.1 hv).1
 clear hg hv hc jk cC
 have fz:¬((i:Int)=(n:Int)):=by omega
 have Rm:(cap:Int)<(n:Int)+1:=by omega
 have aY:(prog.info? 40).map (·.size)=some 18:=by rw[eB];simp[fK]
 have nP:(n:Int)+1-(i:Int)=((n+1-i:Nat):Int):=by omega
 have iw:i+(n+1-i)=n+1:=by omega
 have qv:(xs.take (i * 18)).length=i * 18:=by rw[ZQ,dp];omega
 have hold:(Builtin.firstCells i0.size i (.slice (some ⟨g,0,none⟩) i cap)).run prog w.drew= .ok (xs.take (i * 18)).toArray w.drew:=by
  rw[fK]
  exact run_firstCells_some w.drew 18 i ⟨g,0,none⟩ i cap (xs.take (i * 18)) qv (fun j v hj=>by
   rw[Addr.add_lit,ZA]
   rw[YU]at hj
   split at hj
   ·exact iu j v hj
   ·cases hj)
 have mV:∀ ty,(Builtin.append_ #[23,3] ty #[.slice (some ⟨g,0,none⟩) i cap,.int .i64 ((n:Int)+1-(i:Int))]).run prog w=
   .ok (.slice (some ⟨w.heap.size,0,none⟩) (n+1) (grownCap w (n+1) cap 40)) (w.drew.alloc (.cells ((xs.take (i * 18)).toArray++Builtin.zeroCells zF.cells (n+1-i)++Builtin.zeroCells zF.cells (grownCap w (n+1) cap 40-(n+1))) 40)):=fun ty=>by
  have h:=Lib.run_append_grow_zeros w 23 3 ty 40 i0 _ .i64 .i64 underlying23 underlying3 eB ep (some ⟨g,0,none⟩) i cap (xs.take (i * 18)) hold (n+1-i) (by omega) (by omega) (by omega) (by omega) (by rw[pk];omega) (by rw[pk,iw];exact growslice_fits dU (by omega))
  rw[iw]at h
  rw[nP]
  exact h
 have kC:n+1≤grownCap w (n+1) cap 40:=grownCap_ge w _ _ _
 have jU:grownCap w (n+1) cap 40≤maxLen:=grownCap_le_maxLen w (n+1) cap 40 (by unfold maxLen;omega)
 obtain⟨G,hG⟩:∃ G,G=grownCap w (n+1) cap 40:=⟨_,rfl⟩
 obtain⟨ROW,gS⟩:∃ ROW:Array Value,ROW=(xs.take (i * 18)).toArray++Builtin.zeroCells zF.cells (n+1-i)++Builtin.zeroCells zF.cells (G-(n+1)):=⟨_,rfl⟩
 rw[← hG]at mV kC jU
 rw[← gS]at mV
 have mN:ROW.size=G * 18:=by
  rw[gS]
  simp only[Xr,ZS,qv,Builtin.zeroCells,Array.size_map,Array.size_range,yz]
  omega
 have oX:ROW.toList.take (i * 18)=xs.take (i * 18):=by
  rw[gS]
  simp only[Array.toList_append,Zt]
  exact YW qv
 refine(?_:Calls _ _ _ _ _).mono (fun e w' h=>⟨G,ROW,kC,jU,mN,oX,h⟩)
 obtain⟨W1,fx⟩:∃ W1,W1=w.drew.alloc (.cells ROW 40):=⟨_,rfl⟩
 rw[← fx]at mV
 have hN:∀ j,j<G * 18→(W1.cell? ⟨w.heap.size,j,none⟩).isSome=true:=fun j hj=>by
  rw[fx,World.cell?_alloc_at (w:=w.drew) ROW _ w.heap.size j rfl,Zy (by omega)];rfl
 have wX:∀ j,W1.frozen? ⟨w.heap.size,j,none⟩=false:=fun j=>by rw[fx];exact World.frozen?_alloc_at (w:=w.drew) ROW _ w.heap.size j rfl
 have BS:∀ j v,w.cell? ⟨g,j,none⟩=some v→W1.cell? ⟨g,j,none⟩=some v:=fun j v h=>by rw[fx,World.cell?_alloc_past (w:=w.drew) _ g j mQ];exact h
 have BT:∀ j v,w.cell? ⟨vb,j,none⟩=some v→W1.cell? ⟨vb,j,none⟩=some v:=fun j v h=>by rw[fx,World.cell?_alloc_past (w:=w.drew) _ vb j KT];exact h
 have lV:Nat.min 1 (n+1-i)=1:=by simp only[W9];split<;>omega
 have jy:(xs.drop (i * 18)).length=(n-i) * 18:=by rw[YN,dp,Nat.sub_mul]
 have eT:Nat.min (n-i) (n-i)=n-i:=by simp only[W9];split<;>omega
 have J3:∀ (W:World),(∀ x,W.cell? x=W1.cell? x)→(∀ x,W.frozen? x=W1.frozen? x)→∀ ty dc,(Builtin.copy_ #[23,23] ty #[.slice (some ⟨w.heap.size,i * 18,none⟩) (n+1-i) dc,.slice (some ⟨vb,0,none⟩) 1 1]).run prog W= .ok (goInt 1) (W.setCells w.heap.size (i * 18) vs):=fun W jV oZ ty dc=>by
  rw[vD W _ _ ty 40 w.heap.size (i * 18) (n+1-i) dc ⟨vb,0,none⟩ 1 1 18 vs underlying23 aY (by rw[hl,lV])
   (fun j v hj=>by rw[Addr.add_lit,jV,ZA];exact BT _ v (hcell j v hj))
   (fun j hj=>by rw[jV];exact hN _ (by omega)) (fun j hj=>by rw[oZ];exact wX _) h1,lV];rfl
 have aen:G≤9223372036854775807:=by unfold maxLen at jU;omega
 have hGi:¬(G=i):=by omega
 have aep:¬(G=i+1):=by omega
 have nO:¬(cap=i):=by omega
 have uB:g≠w.heap.size:=by omega
 have J4:∀ (W:World),(∀ x,W.cell? x=(W1.setCells w.heap.size (i * 18) vs).cell? x)→(∀ x,W.frozen? x=(W1.setCells w.heap.size (i * 18) vs).frozen? x)→∀ ty dc sc,(Builtin.copy_ #[23,23] ty #[.slice (some ⟨w.heap.size,(i+1) * 18,none⟩) (n-i) dc,.slice (some ⟨g,i * 18,none⟩) (n-i) sc]).run prog W= .ok (goInt ((n-i:Nat):Int)) (W.setCells w.heap.size ((i+1) * 18) (xs.drop (i * 18))):=fun W jV oZ ty dc sc=>by
  rw[vD W _ _ ty 40 w.heap.size ((i+1) * 18) (n-i) dc ⟨g,i * 18,none⟩ (n-i) sc 18 (xs.drop (i * 18)) underlying23 aY (by rw[jy,eT])
   (fun j v hj=>by
    rw[Addr.add_lit,jV,World.cell?_setCells_out _ _ _ _ _ (fun h _=>absurd h uB)]
    exact BS _ v (iu (i * 18+j) v (by rwa [YF]at hj)))
   (fun j hj=>by rw[jV];exact isSome_setCells _ _ _ _ (fun t ht=>hN _ (by omega)) _ (hN _ (by rw[jy]at hj;omega)))
   (fun j hj=>by rw[oZ,World.frozen?_setCells];exact wX _) (fun v hv=>la v (Yx hv)),eT]
 subst fx
 have JF:∀ x,((w.alloc (.cells ROW 40)).drew).cell? x=(w.drew.alloc (.cells ROW 40)).cell? x:=fun x=>rfl
 have JG:∀ x,((w.alloc (.cells ROW 40)).drew).frozen? x=(w.drew.alloc (.cells ROW 40)).frozen? x:=fun x=>rfl
 have JJ:∀ x,(((w.alloc (.cells ROW 40)).drew.setCells w.heap.size (i * 18) vs).drew).cell? x=((w.drew.alloc (.cells ROW 40)).setCells w.heap.size (i * 18) vs).cell? x:=fun x=>rfl
 have BQ:∀ x,(((w.alloc (.cells ROW 40)).drew.setCells w.heap.size (i * 18) vs).drew).frozen? x=((w.drew.alloc (.cells ROW 40)).setCells w.heap.size (i * 18) vs).frozen? x:=fun x=>rfl
 have uW:IntKind.i64.wrap ((i:Int)+1)=(i:Int)+1:=by rw[IntKind.wrap_i64];omega
 have mX:IntKind.i64.wrap ((n:Int)+1)=(n:Int)+1:=by rw[IntKind.wrap_i64];omega
 have hw3:IntKind.i64.wrap ((n:Int)+1-(i:Int))=(n:Int)+1-(i:Int):=by rw[IntKind.wrap_i64];omega
 have mO:(0:Int)≤(i:Int)+1:=by omega
 have dS:i≤n:=by omega
 have rZ:((i:Int)+1).toNat=i+1:=by omega
 have wY:(i:Int)≤(n:Int):=by omega
 have EL:(i:Int)≤(n:Int)+1:=by omega
 have mixed:prog.follows Departure.mixedOrders=true:=by kernel_rfl
 clear nP iw hold gS hG mN oX qv dp iu hcell hN wX BS BT aY jy
 go_enter func160,ntmps160
 go_wp2_with (first
  |(at_builtin;refine Lib.wpList_append_run _ rfl _ _ _ _ rfl _ _ rfl rfl _ _ (mV _) ?_)
  |(at_builtin;refine wpList_copy_runI _ rfl _ _ 23 23 rfl _ _ rfl rfl (J3 _ JF JG _ _) ?_))
 go_region_law_o (refine step_copy_runI rfl _ _ 23 23 rfl _ _ (by simp[Act.eval,Act.put]) (by simp[Act.eval,Act.put]) (J4 _ JJ BQ 3 (G-(i+1)) (cap-i)) ?_)
 go_wp2
 go_ret
 exact⟨rfl,rfl⟩
def zB:Value:= .agg #[.string ⟨#[]⟩,.string ⟨#[]⟩,.slice none 0 0,.int .i64 0]
theorem CH:(prog.info? 28).map (fun i=>(i.zero,i.size,i.bytes))=some (some zB,4,64):=by kernel_rfl
theorem Nn:zB.cells.size=4:=by kernel_rfl
theorem aft{w:World}{n vb g cap:Nat}{vs:List Value}{cur cI:Array Value}{ta tb:TypeId}(hg:w.heap[g]? =some (.cells cI ta (0,0)))(cC:cI.size=cap * 4)(dU:n+1≤cap)(gW:cap≤maxLen)
  (hv:w.heap[vb]? =some (.cells cur tb (0,0))) (hc:cur.toList=vs) (hl:vs.length=4) (h1:∀ u∈vs,u.oneCell'=true):
  Calls prog 108 #[.slice (some ⟨g,0,none⟩) n cap,.int .i64 n,.slice (some ⟨vb,0,none⟩) 1 1] w fun e w'=>e= .returned (.slice (some ⟨g,0,none⟩) (n+1) cap)∧w'=w.setCells g (n * 4) vs:=by
 obtain⟨i0,eB,ep,fK,pk⟩:=info_parts CH
 have cY:∀ ty,(Builtin.append_ #[22,22] ty #[.slice (some ⟨g,0,none⟩) n cap,.slice (some ⟨vb,0,none⟩) 1 1]).run prog w= .ok (.slice (some ⟨g,0,none⟩) (n+1) cap) (w.setCells g (n * 4) vs):=fun ty=>by
  rw[run_append_room_cells w 22 ty 28 i0 underlying22 eB g 0 n cap ⟨vb,0,none⟩ 1 1 vs (by rw[fK,hl]) (fun j u hj=>by
    rw[Addr.add_lit,ZA]
    simp only[World.cell?,hv]
    rw[← hc,Za]at hj
    exact hj) h1 dU (fun j hj=>by
    simp only[World.cell?,hg]
    simp[cC,fK]
    omega) (fun j hj=>by simp[World.frozen?,hg]),fK,ZA]
 unfold maxLen at gW
 clear hg hv hc cC
 go_enter func108,ntmps108
 go_wp2_with (at_builtin;refine Lib.wpList_append_run _ rfl _ _ _ _ rfl _ _ rfl rfl _ _ (cY _) ?_)
 all_goals(go_ret;exact⟨rfl,rfl⟩)
theorem RF{w:World}{n vb cap:Nat}{base:Option Addr}{xs vs:List Value}{cur:Array Value}{tb:TypeId}(dp:xs.length=n * 4)(hx:∀ w':World,w'.heap=w.heap→(Builtin.firstCells 4 n (.slice base n cap)).run prog w'= .ok xs.toArray w')(hb:base=none→n=0∧cap=0)(EY:n≤cap)(dU:cap<n+1)(hn:n≤100000)
  (hv:w.heap[vb]? =some (.cells cur tb (0,0))) (hc:cur.toList=vs) (hl:vs.length=4) (h1:∀ u∈vs,u.oneCell'=true):
  Calls prog 108 #[.slice base n cap,.int .i64 n,.slice (some ⟨vb,0,none⟩) 1 1] w fun e w'=>∃ (G:Nat) (ROW:Array Value),n+1≤G∧G≤maxLen∧ROW.size=G * 4∧ROW.toList.take ((n+1) * 4)=xs++vs∧e= .returned (.slice (some ⟨w.heap.size,0,none⟩) (n+1) G)∧w'=(w.alloc (.cells ROW 28)).drew:=by
 obtain⟨i0,eB,ep,fK,pk⟩:=info_parts CH
 have rX:Src prog i0.size 22 (.slice (some ⟨vb,0,none⟩) 1 1) 1 vs w:=by
  rw[fK]
  exact Src.ofSlice w underlying22 ⟨vb,0,none⟩ 1 1 vs (by omega) (fun j u hj=>by
   rw[Addr.add_lit,ZA]
   simp only[World.cell?,hv]
   rw[← hc,Za]at hj
   exact hj) h1
 have hold:=hx w.drew rfl
 rw[← fK]at hold
 have kC:n+1≤grownCap w (n+1) cap 28:=grownCap_ge w _ _ _
 have jU:grownCap w (n+1) cap 28≤maxLen:=grownCap_le_maxLen w (n+1) cap 28 (by unfold maxLen;omega)
 have cY:∀ ty,(Builtin.append_ #[22,22] ty #[.slice base n cap,.slice (some ⟨vb,0,none⟩) 1 1]).run prog w= .ok (.slice (some ⟨w.heap.size,0,none⟩) (n+1) (grownCap w (n+1) cap 28)) (w.drew.alloc (.cells ((xs++vs).toArray++Builtin.zeroCells zB.cells (grownCap w (n+1) cap 28-(n+1))) 28)):=fun ty=>
  run_append_grow_src w 22 22 ty 28 i0 _ underlying22 eB ep base n cap xs hold _ 1 vs rX dU (by omega) (by rw[pk];exact growslice_fits dU (by omega))
 obtain⟨G,hG⟩:∃ G,G=grownCap w (n+1) cap 28:=⟨_,rfl⟩
 obtain⟨ROW,gS⟩:∃ ROW:Array Value,ROW=(xs++vs).toArray++Builtin.zeroCells zB.cells (G-(n+1)):=⟨_,rfl⟩
 rw[← hG]at cY kC jU
 rw[← gS]at cY
 have mN:ROW.size=G * 4:=by
  rw[gS]
  simp only[Xr,ZS,Z9,dp,hl,Builtin.zeroCells,Array.size_map,Array.size_range,Nn]
  omega
 have oX:ROW.toList.take ((n+1) * 4)=xs++vs:=by
  rw[gS]
  simp only[Array.toList_append]
  exact YW (by rw[Z9,dp,hl];omega)
 refine(?_:Calls _ _ _ _ _).mono (fun e w' h=>⟨G,ROW,kC,jU,mN,oX,h⟩)
 clear gS hG mN oX dp
 clear hold rX hx hv hc kC jU
 go_enter func108,ntmps108
 cases base with
 |none=>
  obtain⟨rfl,rfl⟩:=hb rfl
  go_wp2_with (at_builtin;refine Lib.wpList_append_run _ rfl _ _ _ _ rfl _ _ rfl rfl _ _ (cY _) ?_)
  all_goals(go_ret;exact⟨rfl,rfl⟩)
 |some a=>
  obtain⟨ab,ao,ek⟩:=a
  go_wp2_with (at_builtin;refine Lib.wpList_append_run _ rfl _ _ _ _ rfl _ _ rfl rfl _ _ (cY _) ?_)
  all_goals(go_ret;exact⟨rfl,rfl⟩)
theorem afv{w:World}{n i vb g cap:Nat}{xs vs:List Value}{cur cI:Array Value}{ta tb:TypeId}(hg:w.heap[g]? =some (.cells cI ta (0,0)))(cC:cI.size=cap * 4)(jk:cI.toList.take (n * 4)=xs)(la:∀ u∈xs,u.oneCell'=true)(hi:i<n)(dU:n+1≤cap)(gW:cap≤maxLen)(aH:vb≠g)
  (hv:w.heap[vb]? =some (.cells cur tb (0,0))) (hc:cur.toList=vs) (hl:vs.length=4) (h1:∀ u∈vs,u.oneCell'=true):
  Calls prog 108 #[.slice (some ⟨g,0,none⟩) n cap,.int .i64 i,.slice (some ⟨vb,0,none⟩) 1 1] w fun e w'=>e= .returned (.slice (some ⟨g,0,none⟩) (n+1) cap)∧w'=(w.drew.setCells g ((i+1) * 4) (xs.drop (i * 4))).setCells g (i * 4) vs:=by
 unfold maxLen at gW
 have dp:xs.length=n * 4:=by rw[← jk,ZQ,Zv,cC,X0 (Y0 _ (by omega))]
 have hcell:∀ j u,vs[j]? =some u→w.cell? ⟨vb,j,none⟩=some u:=fun j u hj=>by
  simp only[World.cell?,hv]
  rw[← hc,Za]at hj
  exact hj
 have iu:∀ j u,xs[j]? =some u→w.cell? ⟨g,j,none⟩=some u:=fun j u hj=>by
  simp only[World.cell?,hg]
  rw[← jk,YU]at hj
  split at hj
  ·rw[Za]at hj;exact hj
  ·cases hj
 have dM:∀ j,j<cap * 4→(w.cell? ⟨g,j,none⟩).isSome=true:=fun j hj=>by
  simp only[World.cell?,hg]
  simp[cC,hj]
 have hfz:∀ j,w.frozen? ⟨g,j,none⟩=false:=fun j=>by simp[World.frozen?,hg]
 have xq:w.shape? vb=some (tb,cur.size):=by simp[World.shape?,hv]
 have KI:w.shape? g=some (ta,cI.size):=by simp[World.shape?,hg]
 have rN:∀ o,w.frozen? ⟨vb,o,none⟩=false:=fun o=>by simp[World.frozen?,hv]
 have Km:cI.size≠0:=by rw[cC];omega
 clear hg hv hc jk cC
 have aY:(prog.info? 28).map (·.size)=some 4:=by
  obtain⟨i0,eB,h0,h1,h2⟩:=info_parts CH
  rw[eB];simp[h1]
 have Cu:∀ lb cb o,(callFunc 154 #[.slice (some ⟨vb,0,none⟩) 1 1,.slice (some ⟨g,o,none⟩) lb cb]).run prog w= .ok (.value (.bool false)) w:=fun lb cb o=>by
  rw[run_callFunc_extern func154 (by kernel_rfl) (by kernel_rfl) (by kernel_rfl) (e:=Extern.SlicesOverlaps.overlaps #[22,22] #[4]) (by kernel_rfl),
   Lib.run_overlaps_apart w 22 4 28 underlying22 4 sizeOf28 ⟨vb,0,none⟩ ⟨g,o,none⟩ 1 1 lb cb aH _ _ _ _ xq KI Km (rN _) (rN _)]
  rfl
 have jy:(xs.drop (i * 4)).length=(n-i) * 4:=by rw[YN,dp,Nat.sub_mul]
 have uW:IntKind.i64.wrap ((i:Int)+1)=(i:Int)+1:=by rw[IntKind.wrap_i64];omega
 have mX:IntKind.i64.wrap ((n:Int)+1)=(n:Int)+1:=by rw[IntKind.wrap_i64];omega
 have fz:¬((i:Int)=(n:Int)):=by omega
 have mO:(0:Int)≤(i:Int)+1:=by omega
 have dS:i≤n:=by omega
 have rZ:((i:Int)+1).toNat=i+1:=by omega
 have mixed:prog.follows Departure.mixedOrders=true:=by kernel_rfl
 have dK:¬(cap=i+1):=by omega
 have wY:(i:Int)≤(n:Int)+1:=by omega
 have hb4:¬(cap=i):=by omega
 have lV:Nat.min 1 (n+1-i)=1:=by simp only[W9];split<;>omega
 have eT:Nat.min (n+1-i) (n-i)=n-i:=by simp only[W9];split<;>omega
 have B9:∀ ty dc sc,(Builtin.copy_ #[22,22] ty #[.slice (some ⟨g,(i+1) * 4,none⟩) (n-i) dc,.slice (some ⟨g,i * 4,none⟩) (n+1-i) sc]).run prog w.drew= .ok (goInt ((n-i:Nat):Int)) (w.drew.setCells g ((i+1) * 4) (xs.drop (i * 4))):=fun ty dc sc=>by
  rw[vD w.drew _ _ ty 28 g ((i+1) * 4) (n-i) dc ⟨g,i * 4,none⟩ (n+1-i) sc 4 (xs.drop (i * 4)) underlying22 aY (by rw[jy,eT])
   (fun j v hj=>by rw[Addr.add_lit];exact iu (i * 4+j) v (by rwa [YF]at hj))
   (fun j hj=>dM _ (by rw[jy]at hj;omega)) (fun j hj=>hfz _) (fun v hv=>la v (Yx hv)),eT]
 obtain⟨W1,fx⟩:∃ W1,W1=w.drew.setCells g ((i+1) * 4) (xs.drop (i * 4)):=⟨_,rfl⟩
 have CA:∀ k,k<cap * 4→(W1.cell? ⟨g,k,none⟩).isSome=true:=fun k hk=>by
  rw[fx]
  by_cases dS:(i+1) * 4≤k∧k<(i+1) * 4+(xs.drop (i * 4)).length
  ·have:=World.cell?_setCells_in g (xs.drop (i * 4)) ((i+1) * 4) w.drew (fun j hj=>dM _ (by rw[jy]at hj;omega)) (k-(i+1) * 4) (by omega)
   rw[show(i+1) * 4+(k-(i+1) * 4)=k by omega]at this
   rw[this];rfl
  ·rw[World.cell?_setCells_out g _ _ _ ⟨g,k,none⟩ (fun _ _=>by show k<(i+1) * 4∨(i+1) * 4+(xs.drop (i * 4)).length≤k;omega)]
   exact dM k hk
 have J2:∀ (W:World),(∀ x,W.cell? x=W1.cell? x)→(∀ x,W.frozen? x=W1.frozen? x)→∀ ty dc,(Builtin.copy_ #[22,22] ty #[.slice (some ⟨g,i * 4,none⟩) (n+1-i) dc,.slice (some ⟨vb,0,none⟩) 1 1]).run prog W= .ok (goInt 1) (W.setCells g (i * 4) vs):=fun W jV oZ ty dc=>by
  rw[vD W _ _ ty 28 g (i * 4) (n+1-i) dc ⟨vb,0,none⟩ 1 1 4 vs underlying22 aY (by rw[hl,lV])
   (fun j v hj=>by
    rw[Addr.add_lit,jV,fx,ZA,World.cell?_setCells_out g _ _ _ _ (fun h _=>absurd h aH)]
    exact hcell j v hj)
   (fun j hj=>by rw[jV];exact CA _ (by omega)) (fun j hj=>by rw[oZ,fx,World.frozen?_setCells];exact hfz _) h1,lV];rfl
 rw[← fx]at B9
 clear dp iu dM CA hfz jy aY hcell
 go_enter func108,ntmps108
 go_wp2_with (simp only[Cu])
 go_region_law_o (refine step_copy_runI rfl _ _ 22 22 rfl _ _ (by simp[Act.eval,Act.put]) (by simp[Act.eval,Act.put]) (B9 _ _ _) ?_)
 go_wp2_with (at_builtin;refine wpList_copy_runI _ rfl _ _ 22 22 rfl _ _ rfl rfl (J2 _ (fun _=>rfl) (fun _=>rfl) _ _) ?_)
 go_ret
 first|exact⟨rfl,rfl⟩|fail
theorem afp{w:World}{n i vb g cap:Nat}{xs vs:List Value}{cur cI:Array Value}{ta tb:TypeId}(hg:w.heap[g]? =some (.cells cI ta (0,0)))(cC:cI.size=cap * 4)(jk:cI.toList.take (n * 4)=xs)(la:∀ u∈xs,u.oneCell'=true)(hi:i<n)(EY:n≤cap)(dU:cap<n+1)(hn:n≤100000)
  (hv:w.heap[vb]? =some (.cells cur tb (0,0))) (hc:cur.toList=vs) (hl:vs.length=4) (h1:∀ u∈vs,u.oneCell'=true):
  Calls prog 108 #[.slice (some ⟨g,0,none⟩) n cap,.int .i64 i,.slice (some ⟨vb,0,none⟩) 1 1] w fun e w'=>∃ (G:Nat) (ROW:Array Value),n+1≤G∧G≤maxLen∧ROW.size=G * 4∧ROW.toList.take (i * 4)=xs.take (i * 4)∧e= .returned (.slice (some ⟨w.heap.size,0,none⟩) (n+1) G)∧w'=((((w.alloc (.cells ROW 28)).drew).setCells w.heap.size (i * 4) vs).drew).setCells w.heap.size ((i+1) * 4) (xs.drop (i * 4)):=by
 obtain⟨i0,eB,ep,fK,pk⟩:=info_parts CH
 have dp:xs.length=n * 4:=by rw[← jk,ZQ,Zv,cC,X0 (Y0 _ (by omega))]
 have hcell:∀ j u,vs[j]? =some u→w.cell? ⟨vb,j,none⟩=some u:=fun j u hj=>by
  simp only[World.cell?,hv]
  rw[← hc,Za]at hj
  exact hj
 have iu:∀ j u,xs[j]? =some u→w.cell? ⟨g,j,none⟩=some u:=fun j u hj=>by
  simp only[World.cell?,hg]
  rw[← jk,YU]at hj
  split at hj
  ·rw[Za]at hj;exact hj
  ·cases hj
 have mQ:g<w.heap.size:=(ZX.1 hg).1
 have KT:vb<w.heap.size:=(ZX.1 hv).1
 clear hg hv hc jk cC
 have fz:¬((i:Int)=(n:Int)):=by omega
 have Rm:(cap:Int)<(n:Int)+1:=by omega
 have aY:(prog.info? 28).map (·.size)=some 4:=by rw[eB];simp[fK]
 have nP:(n:Int)+1-(i:Int)=((n+1-i:Nat):Int):=by omega
 have iw:i+(n+1-i)=n+1:=by omega
 have qv:(xs.take (i * 4)).length=i * 4:=by rw[ZQ,dp];omega
 have hold:(Builtin.firstCells i0.size i (.slice (some ⟨g,0,none⟩) i cap)).run prog w.drew= .ok (xs.take (i * 4)).toArray w.drew:=by
  rw[fK]
  exact run_firstCells_some w.drew 4 i ⟨g,0,none⟩ i cap (xs.take (i * 4)) qv (fun j v hj=>by
   rw[Addr.add_lit,ZA]
   rw[YU]at hj
   split at hj
   ·exact iu j v hj
   ·cases hj)
 have mV:∀ ty,(Builtin.append_ #[22,3] ty #[.slice (some ⟨g,0,none⟩) i cap,.int .i64 ((n:Int)+1-(i:Int))]).run prog w=
   .ok (.slice (some ⟨w.heap.size,0,none⟩) (n+1) (grownCap w (n+1) cap 28)) (w.drew.alloc (.cells ((xs.take (i * 4)).toArray++Builtin.zeroCells zB.cells (n+1-i)++Builtin.zeroCells zB.cells (grownCap w (n+1) cap 28-(n+1))) 28)):=fun ty=>by
  have h:=Lib.run_append_grow_zeros w 22 3 ty 28 i0 _ .i64 .i64 underlying22 underlying3 eB ep (some ⟨g,0,none⟩) i cap (xs.take (i * 4)) hold (n+1-i) (by omega) (by omega) (by omega) (by omega) (by rw[pk];omega) (by rw[pk,iw];exact growslice_fits dU (by omega))
  rw[iw]at h
  rw[nP]
  exact h
 have kC:n+1≤grownCap w (n+1) cap 28:=grownCap_ge w _ _ _
 have jU:grownCap w (n+1) cap 28≤maxLen:=grownCap_le_maxLen w (n+1) cap 28 (by unfold maxLen;omega)
 obtain⟨G,hG⟩:∃ G,G=grownCap w (n+1) cap 28:=⟨_,rfl⟩
 obtain⟨ROW,gS⟩:∃ ROW:Array Value,ROW=(xs.take (i * 4)).toArray++Builtin.zeroCells zB.cells (n+1-i)++Builtin.zeroCells zB.cells (G-(n+1)):=⟨_,rfl⟩
 rw[← hG]at mV kC jU
 rw[← gS]at mV
 have mN:ROW.size=G * 4:=by
  rw[gS]
  simp only[Xr,ZS,qv,Builtin.zeroCells,Array.size_map,Array.size_range,Nn]
  omega
 have oX:ROW.toList.take (i * 4)=xs.take (i * 4):=by
  rw[gS]
  simp only[Array.toList_append,Zt]
  exact YW qv
 refine(?_:Calls _ _ _ _ _).mono (fun e w' h=>⟨G,ROW,kC,jU,mN,oX,h⟩)
 obtain⟨W1,fx⟩:∃ W1,W1=w.drew.alloc (.cells ROW 28):=⟨_,rfl⟩
 rw[← fx]at mV
 have hN:∀ j,j<G * 4→(W1.cell? ⟨w.heap.size,j,none⟩).isSome=true:=fun j hj=>by
  rw[fx,World.cell?_alloc_at (w:=w.drew) ROW _ w.heap.size j rfl,Zy (by omega)];rfl
 have wX:∀ j,W1.frozen? ⟨w.heap.size,j,none⟩=false:=fun j=>by rw[fx];exact World.frozen?_alloc_at (w:=w.drew) ROW _ w.heap.size j rfl
 have BS:∀ j v,w.cell? ⟨g,j,none⟩=some v→W1.cell? ⟨g,j,none⟩=some v:=fun j v h=>by rw[fx,World.cell?_alloc_past (w:=w.drew) _ g j mQ];exact h
 have BT:∀ j v,w.cell? ⟨vb,j,none⟩=some v→W1.cell? ⟨vb,j,none⟩=some v:=fun j v h=>by rw[fx,World.cell?_alloc_past (w:=w.drew) _ vb j KT];exact h
 have lV:Nat.min 1 (n+1-i)=1:=by simp only[W9];split<;>omega
 have jy:(xs.drop (i * 4)).length=(n-i) * 4:=by rw[YN,dp,Nat.sub_mul]
 have eT:Nat.min (n-i) (n-i)=n-i:=by simp only[W9];split<;>omega
 have J3:∀ (W:World),(∀ x,W.cell? x=W1.cell? x)→(∀ x,W.frozen? x=W1.frozen? x)→∀ ty dc,(Builtin.copy_ #[22,22] ty #[.slice (some ⟨w.heap.size,i * 4,none⟩) (n+1-i) dc,.slice (some ⟨vb,0,none⟩) 1 1]).run prog W= .ok (goInt 1) (W.setCells w.heap.size (i * 4) vs):=fun W jV oZ ty dc=>by
  rw[vD W _ _ ty 28 w.heap.size (i * 4) (n+1-i) dc ⟨vb,0,none⟩ 1 1 4 vs underlying22 aY (by rw[hl,lV])
   (fun j v hj=>by rw[Addr.add_lit,jV,ZA];exact BT _ v (hcell j v hj))
   (fun j hj=>by rw[jV];exact hN _ (by omega)) (fun j hj=>by rw[oZ];exact wX _) h1,lV];rfl
 have aen:G≤9223372036854775807:=by unfold maxLen at jU;omega
 have hGi:¬(G=i):=by omega
 have aep:¬(G=i+1):=by omega
 have nO:¬(cap=i):=by omega
 have uB:g≠w.heap.size:=by omega
 have J4:∀ (W:World),(∀ x,W.cell? x=(W1.setCells w.heap.size (i * 4) vs).cell? x)→(∀ x,W.frozen? x=(W1.setCells w.heap.size (i * 4) vs).frozen? x)→∀ ty dc sc,(Builtin.copy_ #[22,22] ty #[.slice (some ⟨w.heap.size,(i+1) * 4,none⟩) (n-i) dc,.slice (some ⟨g,i * 4,none⟩) (n-i) sc]).run prog W= .ok (goInt ((n-i:Nat):Int)) (W.setCells w.heap.size ((i+1) * 4) (xs.drop (i * 4))):=fun W jV oZ ty dc sc=>by
  rw[vD W _ _ ty 28 w.heap.size ((i+1) * 4) (n-i) dc ⟨g,i * 4,none⟩ (n-i) sc 4 (xs.drop (i * 4)) underlying22 aY (by rw[jy,eT])
   (fun j v hj=>by
    rw[Addr.add_lit,jV,World.cell?_setCells_out _ _ _ _ _ (fun h _=>absurd h uB)]
    exact BS _ v (iu (i * 4+j) v (by rwa [YF]at hj)))
   (fun j hj=>by rw[jV];exact isSome_setCells _ _ _ _ (fun t ht=>hN _ (by omega)) _ (hN _ (by rw[jy]at hj;omega)))
   (fun j hj=>by rw[oZ,World.frozen?_setCells];exact wX _) (fun v hv=>la v (Yx hv)),eT]
 subst fx
 have JF:∀ x,((w.alloc (.cells ROW 28)).drew).cell? x=(w.drew.alloc (.cells ROW 28)).cell? x:=fun x=>rfl
 have JG:∀ x,((w.alloc (.cells ROW 28)).drew).frozen? x=(w.drew.alloc (.cells ROW 28)).frozen? x:=fun x=>rfl
 have JJ:∀ x,(((w.alloc (.cells ROW 28)).drew.setCells w.heap.size (i * 4) vs).drew).cell? x=((w.drew.alloc (.cells ROW 28)).setCells w.heap.size (i * 4) vs).cell? x:=fun x=>rfl
 have BQ:∀ x,(((w.alloc (.cells ROW 28)).drew.setCells w.heap.size (i * 4) vs).drew).frozen? x=((w.drew.alloc (.cells ROW 28)).setCells w.heap.size (i * 4) vs).frozen? x:=fun x=>rfl
 have uW:IntKind.i64.wrap ((i:Int)+1)=(i:Int)+1:=by rw[IntKind.wrap_i64];omega
 have mX:IntKind.i64.wrap ((n:Int)+1)=(n:Int)+1:=by rw[IntKind.wrap_i64];omega
 have hw3:IntKind.i64.wrap ((n:Int)+1-(i:Int))=(n:Int)+1-(i:Int):=by rw[IntKind.wrap_i64];omega
 have mO:(0:Int)≤(i:Int)+1:=by omega
 have dS:i≤n:=by omega
 have rZ:((i:Int)+1).toNat=i+1:=by omega
 have wY:(i:Int)≤(n:Int):=by omega
 have EL:(i:Int)≤(n:Int)+1:=by omega
 have mixed:prog.follows Departure.mixedOrders=true:=by kernel_rfl
 clear nP iw hold gS hG mN oX qv dp iu hcell hN wX BS BT aY jy
 go_enter func108,ntmps108
 go_wp2_with (first
  |(at_builtin;refine Lib.wpList_append_run _ rfl _ _ _ _ rfl _ _ rfl rfl _ _ (mV _) ?_)
  |(at_builtin;refine wpList_copy_runI _ rfl _ _ 22 22 rfl _ _ rfl rfl (J3 _ JF JG _ _) ?_))
 go_region_law_o (refine step_copy_runI rfl _ _ 22 22 rfl _ _ (by simp[Act.eval,Act.put]) (by simp[Act.eval,Act.put]) (J4 _ JJ BQ 3 (G-(i+1)) (cap-i)) ?_)
 go_wp2
 go_ret
 exact⟨rfl,rfl⟩
end Go.Proofs.YtajimcniogfpcaaGreatDoor
