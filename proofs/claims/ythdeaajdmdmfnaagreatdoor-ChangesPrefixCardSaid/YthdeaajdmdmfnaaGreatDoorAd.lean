/- slices.Clone and slices.Insert of features, by the library's own steps. -/
import Derived.Test.YthdeaajdmdmfnaaGreatDoorAb
import Derived.Shelf.RegionOpenPlain
import Derived.WalkKit
import Derived.Lib.Walk
import Derived.Lib.SliceRun
import Derived.Lib.AppendZerosOnto
import Derived.Lib.Overlaps
import Derived.Laws.Externs
import Derived.Maps.AppendAt
import Derived.Shelf.Spec.SlicesInsert
import Derived.Test.YthdeaajdmdmfnaaGreatDoorProg
set_option linter.unusedSimpArgs false
set_option linter.unusedVariables false
set_option maxRecDepth 100000
set_option maxHeartbeats 4000000
namespace Go.Proofs.YthdeaajdmdmfnaaGreatDoor
open _root_.Go.Proofs.Tryz
open Go.RowKit Go.Proofs Go.Shelf
def zF:Value:= .agg #[.string ⟨#[]⟩,.string ⟨#[]⟩,.int .i64 0,.slice none 0 0,.string ⟨#[]⟩,.int .i64 0,.string ⟨#[]⟩,.string ⟨#[]⟩,.string ⟨#[]⟩,.int .i64 0,.int .i64 0,.string ⟨#[]⟩,.slice none 0 0,.int .i64 0,.int .i64 0,.int .i64 0,.slice none 0 0,.int .i64 0]
theorem vr:(prog.info? 37).map (fun i=>(i.zero,i.size,i.bytes))=some (some zF,18,248):=by kernel_rfl
theorem wu:zF.cells.size=18:=by kernel_rfl
theorem ac4{w:World}{n vb g cap:Nat}{vs:List Value}{cur cj:Array Value}{ta tb:TypeId}(hg:w.heap[g]? =some (.cells cj ta (0,0)))(bK:cj.size=cap * 18)(dL:n+1≤cap)(iQ:cap≤maxLen)
  (hv:w.heap[vb]? =some (.cells cur tb (0,0))) (hc:cur.toList=vs) (hl:vs.length=18) (h1:∀ u∈vs,u.oneCell'=true):
  Calls prog 165 #[.slice (some ⟨g,0,none⟩) n cap,.int .i64 n,.slice (some ⟨vb,0,none⟩) 1 1] w fun e w'=>e= .returned (.slice (some ⟨g,0,none⟩) (n+1) cap)∧w'=w.setCells g (n * 18) vs:=by
 obtain⟨i0,eE,dR,fu,ou⟩:=info_parts vr
 have cP:∀ ty,(Builtin.append_ #[23,23] ty #[.slice (some ⟨g,0,none⟩) n cap,.slice (some ⟨vb,0,none⟩) 1 1]).run prog w= .ok (.slice (some ⟨g,0,none⟩) (n+1) cap) (w.setCells g (n * 18) vs):=fun ty=>by
  rw[run_append_room_cells w 23 ty 37 i0 underlying23 eE g 0 n cap ⟨vb,0,none⟩ 1 1 vs (by rw[fu,hl]) (fun j u hj=>by
    rw[Addr.add_lit,ZH]
    simp only[World.cell?,hv]
    rw[← hc,Zj]at hj
    exact hj) h1 dL (fun j hj=>by
    simp only[World.cell?,hg]
    simp[bK,fu]
    omega) (fun j hj=>by simp[World.frozen?,hg]),fu,ZH]
 unfold maxLen at iQ
 clear hg hv hc bK
 go_enter func165,ntmps165
 go_wp2_with (at_builtin;refine Lib.wpList_append_run _ rfl _ _ _ _ rfl _ _ rfl rfl _ _ (cP _) ?_)
 all_goals(go_ret;exact⟨rfl,rfl⟩)
theorem Pw{w:World}{n vb cap:Nat}{base:Option Addr}{xs vs:List Value}{cur:Array Value}{tb:TypeId}(cQ:xs.length=n * 18)(hx:∀ w':World,w'.heap=w.heap→(Builtin.firstCells 18 n (.slice base n cap)).run prog w'= .ok xs.toArray w')(hb:base=none→n=0∧cap=0)(Di:n≤cap)(dL:cap<n+1)(hn:n≤100000)
  (hv:w.heap[vb]? =some (.cells cur tb (0,0))) (hc:cur.toList=vs) (hl:vs.length=18) (h1:∀ u∈vs,u.oneCell'=true):
  Calls prog 165 #[.slice base n cap,.int .i64 n,.slice (some ⟨vb,0,none⟩) 1 1] w fun e w'=>∃ (G:Nat) (ROW:Array Value),n+1≤G∧G≤maxLen∧ROW.size=G * 18∧ROW.toList.take ((n+1) * 18)=xs++vs∧e= .returned (.slice (some ⟨w.heap.size,0,none⟩) (n+1) G)∧w'=(w.alloc (.cells ROW 37)).drew:=by
 obtain⟨i0,eE,dR,fu,ou⟩:=info_parts vr
 have qF:Src prog i0.size 23 (.slice (some ⟨vb,0,none⟩) 1 1) 1 vs w:=by
  rw[fu]
  exact Src.ofSlice w underlying23 ⟨vb,0,none⟩ 1 1 vs (by omega) (fun j u hj=>by
   rw[Addr.add_lit,ZH]
   simp only[World.cell?,hv]
   rw[← hc,Zj]at hj
   exact hj) h1
 have hold:=hx w.drew rfl
 rw[← fu]at hold
 have jK:n+1≤grownCap w (n+1) cap 37:=grownCap_ge w _ _ _
 have jl:grownCap w (n+1) cap 37≤maxLen:=grownCap_le_maxLen w (n+1) cap 37 (by unfold maxLen;omega)
 have cP:∀ ty,(Builtin.append_ #[23,23] ty #[.slice base n cap,.slice (some ⟨vb,0,none⟩) 1 1]).run prog w= .ok (.slice (some ⟨w.heap.size,0,none⟩) (n+1) (grownCap w (n+1) cap 37)) (w.drew.alloc (.cells ((xs++vs).toArray++Builtin.zeroCells zF.cells (grownCap w (n+1) cap 37-(n+1))) 37)):=fun ty=>
  run_append_grow_src w 23 23 ty 37 i0 _ underlying23 eE dR base n cap xs hold _ 1 vs qF dL (by omega) (by rw[ou];exact growslice_fits dL (by omega))
 obtain⟨G,hG⟩:∃ G,G=grownCap w (n+1) cap 37:=⟨_,rfl⟩
 obtain⟨ROW,ga⟩:∃ ROW:Array Value,ROW=(xs++vs).toArray++Builtin.zeroCells zF.cells (G-(n+1)):=⟨_,rfl⟩
 rw[← hG]at cP jK jl
 rw[← ga]at cP
 have lR:ROW.size=G * 18:=by
  rw[ga]
  simp only[Xk,Y0,Z4,cQ,hl,Builtin.zeroCells,Array.size_map,Array.size_range,wu]
  omega
 have nR:ROW.toList.take ((n+1) * 18)=xs++vs:=by
  rw[ga]
  simp only[Xy]
  exact Y5 (by rw[Z4,cQ,hl];omega)
 refine(?_:Calls _ _ _ _ _).mono (fun e w' h=>⟨G,ROW,jK,jl,lR,nR,h⟩)
 clear ga hG lR nR cQ
 clear hold qF hx hv hc jK jl
 go_enter func165,ntmps165
 cases base with
 |none=>
  obtain⟨rfl,rfl⟩:=hb rfl
  go_wp2_with (at_builtin;refine Lib.wpList_append_run _ rfl _ _ _ _ rfl _ _ rfl rfl _ _ (cP _) ?_)
  all_goals(go_ret;exact⟨rfl,rfl⟩)
 |some a=>
  obtain⟨ab,ao,V3⟩:=a
  go_wp2_with (at_builtin;refine Lib.wpList_append_run _ rfl _ _ _ _ rfl _ _ rfl rfl _ _ (cP _) ?_)
  all_goals(go_ret;exact⟨rfl,rfl⟩)
theorem ac6{w:World}{n i vb g cap:Nat}{xs vs:List Value}{cur cj:Array Value}{ta tb:TypeId}(hg:w.heap[g]? =some (.cells cj ta (0,0)))(bK:cj.size=cap * 18)(iw:cj.toList.take (n * 18)=xs)(j9:∀ u∈xs,u.oneCell'=true)(hi:i<n)(dL:n+1≤cap)(iQ:cap≤maxLen)(aE:vb≠g)
  (hv:w.heap[vb]? =some (.cells cur tb (0,0))) (hc:cur.toList=vs) (hl:vs.length=18) (h1:∀ u∈vs,u.oneCell'=true):
  Calls prog 165 #[.slice (some ⟨g,0,none⟩) n cap,.int .i64 i,.slice (some ⟨vb,0,none⟩) 1 1] w fun e w'=>e= .returned (.slice (some ⟨g,0,none⟩) (n+1) cap)∧w'=(w.drew.setCells g ((i+1) * 18) (xs.drop (i * 18))).setCells g (i * 18) vs:=by
 unfold maxLen at iQ
 have cQ:xs.length=n * 18:=by rw[← iw,Zx,ZQ,bK,Yi (Y9 _ (by omega))]
 have hcell:∀ j u,vs[j]? =some u→w.cell? ⟨vb,j,none⟩=some u:=fun j u hj=>by
  simp only[World.cell?,hv]
  rw[← hc,Zj]at hj
  exact hj
 have gq:∀ j u,xs[j]? =some u→w.cell? ⟨g,j,none⟩=some u:=fun j u hj=>by
  simp only[World.cell?,hg]
  rw[← iw,Y4]at hj
  split at hj
  ·rw[Zj]at hj;exact hj
  ·cases hj
 have dE:∀ j,j<cap * 18→(w.cell? ⟨g,j,none⟩).isSome=true:=fun j hj=>by
  simp only[World.cell?,hg]
  simp[bK,hj]
 have hfz:∀ j,w.frozen? ⟨g,j,none⟩=false:=fun j=>by simp[World.frozen?,hg]
 have vh:w.shape? vb=some (tb,cur.size):=by simp[World.shape?,hv]
 have IY:w.shape? g=some (ta,cj.size):=by simp[World.shape?,hg]
 have qv:∀ o,w.frozen? ⟨vb,o,none⟩=false:=fun o=>by simp[World.frozen?,hv]
 have Iu:cj.size≠0:=by rw[bK];omega
 clear hg hv hc iw bK
 have bg:(prog.info? 37).map (·.size)=some 18:=by
  obtain⟨i0,eE,h0,h1,h2⟩:=info_parts vr
  rw[eE];simp[h1]
 have Dk:∀ lb cb o,(callFunc 212 #[.slice (some ⟨vb,0,none⟩) 1 1,.slice (some ⟨g,o,none⟩) lb cb]).run prog w= .ok (.value (.bool false)) w:=fun lb cb o=>by
  rw[run_callFunc_extern func212 (by kernel_rfl) (by kernel_rfl) (by kernel_rfl) (e:=Extern.SlicesOverlaps.overlaps #[23,23] #[4]) (by kernel_rfl),
   Lib.run_overlaps_apart w 23 4 37 underlying23 18 sizeOf37 ⟨vb,0,none⟩ ⟨g,o,none⟩ 1 1 lb cb aE _ _ _ _ vh IY Iu (qv _) (qv _)]
  rfl
 have iR:(xs.drop (i * 18)).length=(n-i) * 18:=by rw[YQ,cQ,Nat.sub_mul]
 have sQ:IntKind.i64.wrap ((i:Int)+1)=(i:Int)+1:=by rw[IntKind.wrap_i64];omega
 have lZ:IntKind.i64.wrap ((n:Int)+1)=(n:Int)+1:=by rw[IntKind.wrap_i64];omega
 have gy:¬((i:Int)=(n:Int)):=by omega
 have su:(0:Int)≤(i:Int)+1:=by omega
 have de:i≤n:=by omega
 have qH:((i:Int)+1).toNat=i+1:=by omega
 have mixed:prog.follows Departure.mixedOrders=true:=by kernel_rfl
 have dZ:¬(cap=i+1):=by omega
 have uJ:(i:Int)≤(n:Int)+1:=by omega
 have hb4:¬(cap=i):=by omega
 have oc:Nat.min 1 (n+1-i)=1:=by simp only[Xq];split<;>omega
 have ew:Nat.min (n+1-i) (n-i)=n-i:=by simp only[Xq];split<;>omega
 have zY:∀ ty dc sc,(Builtin.copy_ #[23,23] ty #[.slice (some ⟨g,(i+1) * 18,none⟩) (n-i) dc,.slice (some ⟨g,i * 18,none⟩) (n+1-i) sc]).run prog w.drew= .ok (goInt ((n-i:Nat):Int)) (w.drew.setCells g ((i+1) * 18) (xs.drop (i * 18))):=fun ty dc sc=>by
  rw[tC w.drew _ _ ty 37 g ((i+1) * 18) (n-i) dc ⟨g,i * 18,none⟩ (n+1-i) sc 18 (xs.drop (i * 18)) underlying23 bg (by rw[iR,ew])
   (fun j v hj=>by rw[Addr.add_lit];exact gq (i * 18+j) v (by rwa [Yz]at hj))
   (fun j hj=>dE _ (by rw[iR]at hj;omega)) (fun j hj=>hfz _) (fun v hv=>j9 v (YE hv)),ew]
 obtain⟨W1,dq⟩:∃ W1,W1=w.drew.setCells g ((i+1) * 18) (xs.drop (i * 18)):=⟨_,rfl⟩
 have Aw:∀ k,k<cap * 18→(W1.cell? ⟨g,k,none⟩).isSome=true:=fun k hk=>by
  rw[dq]
  by_cases de:(i+1) * 18≤k∧k<(i+1) * 18+(xs.drop (i * 18)).length
  ·have:=World.cell?_setCells_in g (xs.drop (i * 18)) ((i+1) * 18) w.drew (fun j hj=>dE _ (by rw[iR]at hj;omega)) (k-(i+1) * 18) (by omega)
   rw[show(i+1) * 18+(k-(i+1) * 18)=k by omega]at this
   rw[this];rfl
  ·rw[World.cell?_setCells_out g _ _ _ ⟨g,k,none⟩ (fun _ _=>by show k<(i+1) * 18∨(i+1) * 18+(xs.drop (i * 18)).length≤k;omega)]
   exact dE k hk
 have H7:∀ (W:World),(∀ x,W.cell? x=W1.cell? x)→(∀ x,W.frozen? x=W1.frozen? x)→∀ ty dc,(Builtin.copy_ #[23,23] ty #[.slice (some ⟨g,i * 18,none⟩) (n+1-i) dc,.slice (some ⟨vb,0,none⟩) 1 1]).run prog W= .ok (goInt 1) (W.setCells g (i * 18) vs):=fun W jm nT ty dc=>by
  rw[tC W _ _ ty 37 g (i * 18) (n+1-i) dc ⟨vb,0,none⟩ 1 1 18 vs underlying23 bg (by rw[hl,oc])
   (fun j v hj=>by
    rw[Addr.add_lit,jm,dq,ZH,World.cell?_setCells_out g _ _ _ _ (fun h _=>absurd h aE)]
    exact hcell j v hj)
   (fun j hj=>by rw[jm];exact Aw _ (by omega)) (fun j hj=>by rw[nT,dq,World.frozen?_setCells];exact hfz _) h1,oc];rfl
 rw[← dq]at zY
 clear cQ gq dE Aw hfz iR bg hcell
 go_enter func165,ntmps165
 go_wp2_with (simp only[Dk])
 go_region_law_o (refine step_copy_runI rfl _ _ 23 23 rfl _ _ (by simp[Act.eval,Act.put]) (by simp[Act.eval,Act.put]) (zY _ _ _) ?_)
 go_wp2_with (at_builtin;refine wpList_copy_runI _ rfl _ _ 23 23 rfl _ _ rfl rfl (H7 _ (fun _=>rfl) (fun _=>rfl) _ _) ?_)
 go_ret
 first|exact⟨rfl,rfl⟩|fail
theorem ac0{w:World}{n i vb g cap:Nat}{xs vs:List Value}{cur cj:Array Value}{ta tb:TypeId}(hg:w.heap[g]? =some (.cells cj ta (0,0)))(bK:cj.size=cap * 18)(iw:cj.toList.take (n * 18)=xs)(j9:∀ u∈xs,u.oneCell'=true)(hi:i<n)(Di:n≤cap)(dL:cap<n+1)(hn:n≤100000)
  (hv:w.heap[vb]? =some (.cells cur tb (0,0))) (hc:cur.toList=vs) (hl:vs.length=18) (h1:∀ u∈vs,u.oneCell'=true):
  Calls prog 165 #[.slice (some ⟨g,0,none⟩) n cap,.int .i64 i,.slice (some ⟨vb,0,none⟩) 1 1] w fun e w'=>∃ (G:Nat) (ROW:Array Value),n+1≤G∧G≤maxLen∧ROW.size=G * 18∧ROW.toList.take (i * 18)=xs.take (i * 18)∧e= .returned (.slice (some ⟨w.heap.size,0,none⟩) (n+1) G)∧w'=((((w.alloc (.cells ROW 37)).drew).setCells w.heap.size (i * 18) vs).drew).setCells w.heap.size ((i+1) * 18) (xs.drop (i * 18)):=by
 obtain⟨i0,eE,dR,fu,ou⟩:=info_parts vr
 have cQ:xs.length=n * 18:=by rw[← iw,Zx,ZQ,bK,Yi (Y9 _ (by omega))]
 have hcell:∀ j u,vs[j]? =some u→w.cell? ⟨vb,j,none⟩=some u:=fun j u hj=>by
  simp only[World.cell?,hv]
  rw[← hc,Zj]at hj
  exact hj
 have gq:∀ j u,xs[j]? =some u→w.cell? ⟨g,j,none⟩=some u:=fun j u hj=>by
  simp only[World.cell?,hg]
  rw[← iw,Y4]at hj
  split at hj
  ·rw[Zj]at hj;exact hj
  ·cases hj
 have lT:g<w.heap.size:=(Z6.1 hg).1
 have I6:vb<w.heap.size:=(Z6.1 hv).1
 clear hg hv hc iw bK
 have gy:¬((i:Int)=(n:Int)):=by omega
 have hz3:(cap:Int)<(n:Int)+1:=by omega
 have bg:(prog.info? 37).map (·.size)=some 18:=by rw[eE];simp[fu]
 have mU:(n:Int)+1-(i:Int)=((n+1-i:Nat):Int):=by omega
 have gr:i+(n+1-i)=n+1:=by omega
 have pG:(xs.take (i * 18)).length=i * 18:=by rw[Zx,cQ];omega
 have hold:(Builtin.firstCells i0.size i (.slice (some ⟨g,0,none⟩) i cap)).run prog w.drew= .ok (xs.take (i * 18)).toArray w.drew:=by
  rw[fu]
  exact run_firstCells_some w.drew 18 i ⟨g,0,none⟩ i cap (xs.take (i * 18)) pG (fun j v hj=>by
   rw[Addr.add_lit,ZH]
   rw[Y4]at hj
   split at hj
   ·exact gq j v hj
   ·cases hj)
 have lX:∀ ty,(Builtin.append_ #[23,3] ty #[.slice (some ⟨g,0,none⟩) i cap,.int .i64 ((n:Int)+1-(i:Int))]).run prog w=
   .ok (.slice (some ⟨w.heap.size,0,none⟩) (n+1) (grownCap w (n+1) cap 37)) (w.drew.alloc (.cells ((xs.take (i * 18)).toArray++Builtin.zeroCells zF.cells (n+1-i)++Builtin.zeroCells zF.cells (grownCap w (n+1) cap 37-(n+1))) 37)):=fun ty=>by
  have h:=Lib.run_append_grow_zeros w 23 3 ty 37 i0 _ .i64 .i64 underlying23 underlying3 eE dR (some ⟨g,0,none⟩) i cap (xs.take (i * 18)) hold (n+1-i) (by omega) (by omega) (by omega) (by omega) (by rw[ou];omega) (by rw[ou,gr];exact growslice_fits dL (by omega))
  rw[gr]at h
  rw[mU]
  exact h
 have jK:n+1≤grownCap w (n+1) cap 37:=grownCap_ge w _ _ _
 have jl:grownCap w (n+1) cap 37≤maxLen:=grownCap_le_maxLen w (n+1) cap 37 (by unfold maxLen;omega)
 obtain⟨G,hG⟩:∃ G,G=grownCap w (n+1) cap 37:=⟨_,rfl⟩
 obtain⟨ROW,ga⟩:∃ ROW:Array Value,ROW=(xs.take (i * 18)).toArray++Builtin.zeroCells zF.cells (n+1-i)++Builtin.zeroCells zF.cells (G-(n+1)):=⟨_,rfl⟩
 rw[← hG]at lX jK jl
 rw[← ga]at lX
 have lR:ROW.size=G * 18:=by
  rw[ga]
  simp only[Xk,Y0,pG,Builtin.zeroCells,Array.size_map,Array.size_range,wu]
  omega
 have nR:ROW.toList.take (i * 18)=xs.take (i * 18):=by
  rw[ga]
  simp only[Xy,Zb]
  exact Y5 pG
 refine(?_:Calls _ _ _ _ _).mono (fun e w' h=>⟨G,ROW,jK,jl,lR,nR,h⟩)
 obtain⟨W1,dq⟩:∃ W1,W1=w.drew.alloc (.cells ROW 37):=⟨_,rfl⟩
 rw[← dq]at lX
 have hN:∀ j,j<G * 18→(W1.cell? ⟨w.heap.size,j,none⟩).isSome=true:=fun j hj=>by
  rw[dq,World.cell?_alloc_at (w:=w.drew) ROW _ w.heap.size j rfl,ZN (by omega)];rfl
 have uD:∀ j,W1.frozen? ⟨w.heap.size,j,none⟩=false:=fun j=>by rw[dq];exact World.frozen?_alloc_at (w:=w.drew) ROW _ w.heap.size j rfl
 have zM:∀ j v,w.cell? ⟨g,j,none⟩=some v→W1.cell? ⟨g,j,none⟩=some v:=fun j v h=>by rw[dq,World.cell?_alloc_past (w:=w.drew) _ g j lT];exact h
 have zN:∀ j v,w.cell? ⟨vb,j,none⟩=some v→W1.cell? ⟨vb,j,none⟩=some v:=fun j v h=>by rw[dq,World.cell?_alloc_past (w:=w.drew) _ vb j I6];exact h
 have oc:Nat.min 1 (n+1-i)=1:=by simp only[Xq];split<;>omega
 have iR:(xs.drop (i * 18)).length=(n-i) * 18:=by rw[YQ,cQ,Nat.sub_mul]
 have ew:Nat.min (n-i) (n-i)=n-i:=by simp only[Xq];split<;>omega
 have H8:∀ (W:World),(∀ x,W.cell? x=W1.cell? x)→(∀ x,W.frozen? x=W1.frozen? x)→∀ ty dc,(Builtin.copy_ #[23,23] ty #[.slice (some ⟨w.heap.size,i * 18,none⟩) (n+1-i) dc,.slice (some ⟨vb,0,none⟩) 1 1]).run prog W= .ok (goInt 1) (W.setCells w.heap.size (i * 18) vs):=fun W jm nT ty dc=>by
  rw[tC W _ _ ty 37 w.heap.size (i * 18) (n+1-i) dc ⟨vb,0,none⟩ 1 1 18 vs underlying23 bg (by rw[hl,oc])
   (fun j v hj=>by rw[Addr.add_lit,jm,ZH];exact zN _ v (hcell j v hj))
   (fun j hj=>by rw[jm];exact hN _ (by omega)) (fun j hj=>by rw[nT];exact uD _) h1,oc];rfl
 have abJ:G≤9223372036854775807:=by unfold maxLen at jl;omega
 have hGi:¬(G=i):=by omega
 have abL:¬(G=i+1):=by omega
 have mR:¬(cap=i):=by omega
 have HJ:g≠w.heap.size:=by omega
 have H9:∀ (W:World),(∀ x,W.cell? x=(W1.setCells w.heap.size (i * 18) vs).cell? x)→(∀ x,W.frozen? x=(W1.setCells w.heap.size (i * 18) vs).frozen? x)→∀ ty dc sc,(Builtin.copy_ #[23,23] ty #[.slice (some ⟨w.heap.size,(i+1) * 18,none⟩) (n-i) dc,.slice (some ⟨g,i * 18,none⟩) (n-i) sc]).run prog W= .ok (goInt ((n-i:Nat):Int)) (W.setCells w.heap.size ((i+1) * 18) (xs.drop (i * 18))):=fun W jm nT ty dc sc=>by
  rw[tC W _ _ ty 37 w.heap.size ((i+1) * 18) (n-i) dc ⟨g,i * 18,none⟩ (n-i) sc 18 (xs.drop (i * 18)) underlying23 bg (by rw[iR,ew])
   (fun j v hj=>by
    rw[Addr.add_lit,jm,World.cell?_setCells_out _ _ _ _ _ (fun h _=>absurd h HJ)]
    exact zM _ v (gq (i * 18+j) v (by rwa [Yz]at hj)))
   (fun j hj=>by rw[jm];exact isSome_setCells _ _ _ _ (fun t ht=>hN _ (by omega)) _ (hN _ (by rw[iR]at hj;omega)))
   (fun j hj=>by rw[nT,World.frozen?_setCells];exact uD _) (fun v hv=>j9 v (YE hv)),ew]
 subst dq
 have G9:∀ x,((w.alloc (.cells ROW 37)).drew).cell? x=(w.drew.alloc (.cells ROW 37)).cell? x:=fun x=>rfl
 have Hb:∀ x,((w.alloc (.cells ROW 37)).drew).frozen? x=(w.drew.alloc (.cells ROW 37)).frozen? x:=fun x=>rfl
 have Hg:∀ x,(((w.alloc (.cells ROW 37)).drew.setCells w.heap.size (i * 18) vs).drew).cell? x=((w.drew.alloc (.cells ROW 37)).setCells w.heap.size (i * 18) vs).cell? x:=fun x=>rfl
 have zK:∀ x,(((w.alloc (.cells ROW 37)).drew.setCells w.heap.size (i * 18) vs).drew).frozen? x=((w.drew.alloc (.cells ROW 37)).setCells w.heap.size (i * 18) vs).frozen? x:=fun x=>rfl
 have sQ:IntKind.i64.wrap ((i:Int)+1)=(i:Int)+1:=by rw[IntKind.wrap_i64];omega
 have lZ:IntKind.i64.wrap ((n:Int)+1)=(n:Int)+1:=by rw[IntKind.wrap_i64];omega
 have hw3:IntKind.i64.wrap ((n:Int)+1-(i:Int))=(n:Int)+1-(i:Int):=by rw[IntKind.wrap_i64];omega
 have su:(0:Int)≤(i:Int)+1:=by omega
 have de:i≤n:=by omega
 have qH:((i:Int)+1).toNat=i+1:=by omega
 have uJ:(i:Int)≤(n:Int):=by omega
 have C1:(i:Int)≤(n:Int)+1:=by omega
 have mixed:prog.follows Departure.mixedOrders=true:=by kernel_rfl
 clear mU gr hold ga hG lR nR pG cQ gq hcell hN uD zM zN bg iR
 go_enter func165,ntmps165
 go_wp2_with (first
  |(at_builtin;refine Lib.wpList_append_run _ rfl _ _ _ _ rfl _ _ rfl rfl _ _ (lX _) ?_)
  |(at_builtin;refine wpList_copy_runI _ rfl _ _ 23 23 rfl _ _ rfl rfl (H8 _ G9 Hb _ _) ?_))
 go_region_law_o (refine step_copy_runI rfl _ _ 23 23 rfl _ _ (by simp[Act.eval,Act.put]) (by simp[Act.eval,Act.put]) (H9 _ Hg zK 3 (G-(i+1)) (cap-i)) ?_)
 go_wp2
 go_ret
 exact⟨rfl,rfl⟩
def zB:Value:= .agg #[.string ⟨#[]⟩,.string ⟨#[]⟩,.slice none 0 0,.int .i64 0]
theorem AG:(prog.info? 45).map (fun i=>(i.zero,i.size,i.bytes))=some (some zB,4,64):=by kernel_rfl
theorem Lf:zB.cells.size=4:=by kernel_rfl
theorem ac3{w:World}{n vb g cap:Nat}{vs:List Value}{cur cj:Array Value}{ta tb:TypeId}(hg:w.heap[g]? =some (.cells cj ta (0,0)))(bK:cj.size=cap * 4)(dL:n+1≤cap)(iQ:cap≤maxLen)
  (hv:w.heap[vb]? =some (.cells cur tb (0,0))) (hc:cur.toList=vs) (hl:vs.length=4) (h1:∀ u∈vs,u.oneCell'=true):
  Calls prog 117 #[.slice (some ⟨g,0,none⟩) n cap,.int .i64 n,.slice (some ⟨vb,0,none⟩) 1 1] w fun e w'=>e= .returned (.slice (some ⟨g,0,none⟩) (n+1) cap)∧w'=w.setCells g (n * 4) vs:=by
 obtain⟨i0,eE,dR,fu,ou⟩:=info_parts AG
 have cP:∀ ty,(Builtin.append_ #[22,22] ty #[.slice (some ⟨g,0,none⟩) n cap,.slice (some ⟨vb,0,none⟩) 1 1]).run prog w= .ok (.slice (some ⟨g,0,none⟩) (n+1) cap) (w.setCells g (n * 4) vs):=fun ty=>by
  rw[run_append_room_cells w 22 ty 45 i0 underlying22 eE g 0 n cap ⟨vb,0,none⟩ 1 1 vs (by rw[fu,hl]) (fun j u hj=>by
    rw[Addr.add_lit,ZH]
    simp only[World.cell?,hv]
    rw[← hc,Zj]at hj
    exact hj) h1 dL (fun j hj=>by
    simp only[World.cell?,hg]
    simp[bK,fu]
    omega) (fun j hj=>by simp[World.frozen?,hg]),fu,ZH]
 unfold maxLen at iQ
 clear hg hv hc bK
 go_enter func117,ntmps117
 go_wp2_with (at_builtin;refine Lib.wpList_append_run _ rfl _ _ _ _ rfl _ _ rfl rfl _ _ (cP _) ?_)
 all_goals(go_ret;exact⟨rfl,rfl⟩)
theorem Pv{w:World}{n vb cap:Nat}{base:Option Addr}{xs vs:List Value}{cur:Array Value}{tb:TypeId}(cQ:xs.length=n * 4)(hx:∀ w':World,w'.heap=w.heap→(Builtin.firstCells 4 n (.slice base n cap)).run prog w'= .ok xs.toArray w')(hb:base=none→n=0∧cap=0)(Di:n≤cap)(dL:cap<n+1)(hn:n≤100000)
  (hv:w.heap[vb]? =some (.cells cur tb (0,0))) (hc:cur.toList=vs) (hl:vs.length=4) (h1:∀ u∈vs,u.oneCell'=true):
  Calls prog 117 #[.slice base n cap,.int .i64 n,.slice (some ⟨vb,0,none⟩) 1 1] w fun e w'=>∃ (G:Nat) (ROW:Array Value),n+1≤G∧G≤maxLen∧ROW.size=G * 4∧ROW.toList.take ((n+1) * 4)=xs++vs∧e= .returned (.slice (some ⟨w.heap.size,0,none⟩) (n+1) G)∧w'=(w.alloc (.cells ROW 45)).drew:=by
 obtain⟨i0,eE,dR,fu,ou⟩:=info_parts AG
 have qF:Src prog i0.size 22 (.slice (some ⟨vb,0,none⟩) 1 1) 1 vs w:=by
  rw[fu]
  exact Src.ofSlice w underlying22 ⟨vb,0,none⟩ 1 1 vs (by omega) (fun j u hj=>by
   rw[Addr.add_lit,ZH]
   simp only[World.cell?,hv]
   rw[← hc,Zj]at hj
   exact hj) h1
 have hold:=hx w.drew rfl
 rw[← fu]at hold
 have jK:n+1≤grownCap w (n+1) cap 45:=grownCap_ge w _ _ _
 have jl:grownCap w (n+1) cap 45≤maxLen:=grownCap_le_maxLen w (n+1) cap 45 (by unfold maxLen;omega)
 have cP:∀ ty,(Builtin.append_ #[22,22] ty #[.slice base n cap,.slice (some ⟨vb,0,none⟩) 1 1]).run prog w= .ok (.slice (some ⟨w.heap.size,0,none⟩) (n+1) (grownCap w (n+1) cap 45)) (w.drew.alloc (.cells ((xs++vs).toArray++Builtin.zeroCells zB.cells (grownCap w (n+1) cap 45-(n+1))) 45)):=fun ty=>
  run_append_grow_src w 22 22 ty 45 i0 _ underlying22 eE dR base n cap xs hold _ 1 vs qF dL (by omega) (by rw[ou];exact growslice_fits dL (by omega))
 obtain⟨G,hG⟩:∃ G,G=grownCap w (n+1) cap 45:=⟨_,rfl⟩
 obtain⟨ROW,ga⟩:∃ ROW:Array Value,ROW=(xs++vs).toArray++Builtin.zeroCells zB.cells (G-(n+1)):=⟨_,rfl⟩
 rw[← hG]at cP jK jl
 rw[← ga]at cP
 have lR:ROW.size=G * 4:=by
  rw[ga]
  simp only[Xk,Y0,Z4,cQ,hl,Builtin.zeroCells,Array.size_map,Array.size_range,Lf]
  omega
 have nR:ROW.toList.take ((n+1) * 4)=xs++vs:=by
  rw[ga]
  simp only[Xy]
  exact Y5 (by rw[Z4,cQ,hl];omega)
 refine(?_:Calls _ _ _ _ _).mono (fun e w' h=>⟨G,ROW,jK,jl,lR,nR,h⟩)
 clear ga hG lR nR cQ
 clear hold qF hx hv hc jK jl
 go_enter func117,ntmps117
 cases base with
 |none=>
  obtain⟨rfl,rfl⟩:=hb rfl
  go_wp2_with (at_builtin;refine Lib.wpList_append_run _ rfl _ _ _ _ rfl _ _ rfl rfl _ _ (cP _) ?_)
  all_goals(go_ret;exact⟨rfl,rfl⟩)
 |some a=>
  obtain⟨ab,ao,V3⟩:=a
  go_wp2_with (at_builtin;refine Lib.wpList_append_run _ rfl _ _ _ _ rfl _ _ rfl rfl _ _ (cP _) ?_)
  all_goals(go_ret;exact⟨rfl,rfl⟩)
theorem ac5{w:World}{n i vb g cap:Nat}{xs vs:List Value}{cur cj:Array Value}{ta tb:TypeId}(hg:w.heap[g]? =some (.cells cj ta (0,0)))(bK:cj.size=cap * 4)(iw:cj.toList.take (n * 4)=xs)(j9:∀ u∈xs,u.oneCell'=true)(hi:i<n)(dL:n+1≤cap)(iQ:cap≤maxLen)(aE:vb≠g)
  (hv:w.heap[vb]? =some (.cells cur tb (0,0))) (hc:cur.toList=vs) (hl:vs.length=4) (h1:∀ u∈vs,u.oneCell'=true):
  Calls prog 117 #[.slice (some ⟨g,0,none⟩) n cap,.int .i64 i,.slice (some ⟨vb,0,none⟩) 1 1] w fun e w'=>e= .returned (.slice (some ⟨g,0,none⟩) (n+1) cap)∧w'=(w.drew.setCells g ((i+1) * 4) (xs.drop (i * 4))).setCells g (i * 4) vs:=by
 unfold maxLen at iQ
 have cQ:xs.length=n * 4:=by rw[← iw,Zx,ZQ,bK,Yi (Y9 _ (by omega))]
 have hcell:∀ j u,vs[j]? =some u→w.cell? ⟨vb,j,none⟩=some u:=fun j u hj=>by
  simp only[World.cell?,hv]
  rw[← hc,Zj]at hj
  exact hj
 have gq:∀ j u,xs[j]? =some u→w.cell? ⟨g,j,none⟩=some u:=fun j u hj=>by
  simp only[World.cell?,hg]
  rw[← iw,Y4]at hj
  split at hj
  ·rw[Zj]at hj;exact hj
  ·cases hj
 have dE:∀ j,j<cap * 4→(w.cell? ⟨g,j,none⟩).isSome=true:=fun j hj=>by
  simp only[World.cell?,hg]
  simp[bK,hj]
 have hfz:∀ j,w.frozen? ⟨g,j,none⟩=false:=fun j=>by simp[World.frozen?,hg]
 have vh:w.shape? vb=some (tb,cur.size):=by simp[World.shape?,hv]
 have IY:w.shape? g=some (ta,cj.size):=by simp[World.shape?,hg]
 have qv:∀ o,w.frozen? ⟨vb,o,none⟩=false:=fun o=>by simp[World.frozen?,hv]
 have Iu:cj.size≠0:=by rw[bK];omega
 clear hg hv hc iw bK
 have bg:(prog.info? 45).map (·.size)=some 4:=by
  obtain⟨i0,eE,h0,h1,h2⟩:=info_parts AG
  rw[eE];simp[h1]
 have Dk:∀ lb cb o,(callFunc 161 #[.slice (some ⟨vb,0,none⟩) 1 1,.slice (some ⟨g,o,none⟩) lb cb]).run prog w= .ok (.value (.bool false)) w:=fun lb cb o=>by
  rw[run_callFunc_extern func161 (by kernel_rfl) (by kernel_rfl) (by kernel_rfl) (e:=Extern.SlicesOverlaps.overlaps #[22,22] #[4]) (by kernel_rfl),
   Lib.run_overlaps_apart w 22 4 45 underlying22 4 sizeOf45 ⟨vb,0,none⟩ ⟨g,o,none⟩ 1 1 lb cb aE _ _ _ _ vh IY Iu (qv _) (qv _)]
  rfl
 have iR:(xs.drop (i * 4)).length=(n-i) * 4:=by rw[YQ,cQ,Nat.sub_mul]
 have sQ:IntKind.i64.wrap ((i:Int)+1)=(i:Int)+1:=by rw[IntKind.wrap_i64];omega
 have lZ:IntKind.i64.wrap ((n:Int)+1)=(n:Int)+1:=by rw[IntKind.wrap_i64];omega
 have gy:¬((i:Int)=(n:Int)):=by omega
 have su:(0:Int)≤(i:Int)+1:=by omega
 have de:i≤n:=by omega
 have qH:((i:Int)+1).toNat=i+1:=by omega
 have mixed:prog.follows Departure.mixedOrders=true:=by kernel_rfl
 have dZ:¬(cap=i+1):=by omega
 have uJ:(i:Int)≤(n:Int)+1:=by omega
 have hb4:¬(cap=i):=by omega
 have oc:Nat.min 1 (n+1-i)=1:=by simp only[Xq];split<;>omega
 have ew:Nat.min (n+1-i) (n-i)=n-i:=by simp only[Xq];split<;>omega
 have zY:∀ ty dc sc,(Builtin.copy_ #[22,22] ty #[.slice (some ⟨g,(i+1) * 4,none⟩) (n-i) dc,.slice (some ⟨g,i * 4,none⟩) (n+1-i) sc]).run prog w.drew= .ok (goInt ((n-i:Nat):Int)) (w.drew.setCells g ((i+1) * 4) (xs.drop (i * 4))):=fun ty dc sc=>by
  rw[tC w.drew _ _ ty 45 g ((i+1) * 4) (n-i) dc ⟨g,i * 4,none⟩ (n+1-i) sc 4 (xs.drop (i * 4)) underlying22 bg (by rw[iR,ew])
   (fun j v hj=>by rw[Addr.add_lit];exact gq (i * 4+j) v (by rwa [Yz]at hj))
   (fun j hj=>dE _ (by rw[iR]at hj;omega)) (fun j hj=>hfz _) (fun v hv=>j9 v (YE hv)),ew]
 obtain⟨W1,dq⟩:∃ W1,W1=w.drew.setCells g ((i+1) * 4) (xs.drop (i * 4)):=⟨_,rfl⟩
 have Aw:∀ k,k<cap * 4→(W1.cell? ⟨g,k,none⟩).isSome=true:=fun k hk=>by
  rw[dq]
  by_cases de:(i+1) * 4≤k∧k<(i+1) * 4+(xs.drop (i * 4)).length
  ·have:=World.cell?_setCells_in g (xs.drop (i * 4)) ((i+1) * 4) w.drew (fun j hj=>dE _ (by rw[iR]at hj;omega)) (k-(i+1) * 4) (by omega)
   rw[show(i+1) * 4+(k-(i+1) * 4)=k by omega]at this
   rw[this];rfl
  ·rw[World.cell?_setCells_out g _ _ _ ⟨g,k,none⟩ (fun _ _=>by show k<(i+1) * 4∨(i+1) * 4+(xs.drop (i * 4)).length≤k;omega)]
   exact dE k hk
 have H7:∀ (W:World),(∀ x,W.cell? x=W1.cell? x)→(∀ x,W.frozen? x=W1.frozen? x)→∀ ty dc,(Builtin.copy_ #[22,22] ty #[.slice (some ⟨g,i * 4,none⟩) (n+1-i) dc,.slice (some ⟨vb,0,none⟩) 1 1]).run prog W= .ok (goInt 1) (W.setCells g (i * 4) vs):=fun W jm nT ty dc=>by
  rw[tC W _ _ ty 45 g (i * 4) (n+1-i) dc ⟨vb,0,none⟩ 1 1 4 vs underlying22 bg (by rw[hl,oc])
   (fun j v hj=>by
    rw[Addr.add_lit,jm,dq,ZH,World.cell?_setCells_out g _ _ _ _ (fun h _=>absurd h aE)]
    exact hcell j v hj)
   (fun j hj=>by rw[jm];exact Aw _ (by omega)) (fun j hj=>by rw[nT,dq,World.frozen?_setCells];exact hfz _) h1,oc];rfl
 rw[← dq]at zY
 clear cQ gq dE Aw hfz iR bg hcell
 go_enter func117,ntmps117
 go_wp2_with (simp only[Dk])
 go_region_law_o (refine step_copy_runI rfl _ _ 22 22 rfl _ _ (by simp[Act.eval,Act.put]) (by simp[Act.eval,Act.put]) (zY _ _ _) ?_)
 go_wp2_with (at_builtin;refine wpList_copy_runI _ rfl _ _ 22 22 rfl _ _ rfl rfl (H7 _ (fun _=>rfl) (fun _=>rfl) _ _) ?_)
 go_ret
 first|exact⟨rfl,rfl⟩|fail
theorem acZ{w:World}{n i vb g cap:Nat}{xs vs:List Value}{cur cj:Array Value}{ta tb:TypeId}(hg:w.heap[g]? =some (.cells cj ta (0,0)))(bK:cj.size=cap * 4)(iw:cj.toList.take (n * 4)=xs)(j9:∀ u∈xs,u.oneCell'=true)(hi:i<n)(Di:n≤cap)(dL:cap<n+1)(hn:n≤100000)
  (hv:w.heap[vb]? =some (.cells cur tb (0,0))) (hc:cur.toList=vs) (hl:vs.length=4) (h1:∀ u∈vs,u.oneCell'=true):
  Calls prog 117 #[.slice (some ⟨g,0,none⟩) n cap,.int .i64 i,.slice (some ⟨vb,0,none⟩) 1 1] w fun e w'=>∃ (G:Nat) (ROW:Array Value),n+1≤G∧G≤maxLen∧ROW.size=G * 4∧ROW.toList.take (i * 4)=xs.take (i * 4)∧e= .returned (.slice (some ⟨w.heap.size,0,none⟩) (n+1) G)∧w'=((((w.alloc (.cells ROW 45)).drew).setCells w.heap.size (i * 4) vs).drew).setCells w.heap.size ((i+1) * 4) (xs.drop (i * 4)):=by
 obtain⟨i0,eE,dR,fu,ou⟩:=info_parts AG
 have cQ:xs.length=n * 4:=by rw[← iw,Zx,ZQ,bK,Yi (Y9 _ (by omega))]
 have hcell:∀ j u,vs[j]? =some u→w.cell? ⟨vb,j,none⟩=some u:=fun j u hj=>by
  simp only[World.cell?,hv]
  rw[← hc,Zj]at hj
  exact hj
 have gq:∀ j u,xs[j]? =some u→w.cell? ⟨g,j,none⟩=some u:=fun j u hj=>by
  simp only[World.cell?,hg]
  rw[← iw,Y4]at hj
  split at hj
  ·rw[Zj]at hj;exact hj
  ·cases hj
 have lT:g<w.heap.size:=(Z6.1 hg).1
 have I6:vb<w.heap.size:=(Z6.1 hv).1
 clear hg hv hc iw bK
 have gy:¬((i:Int)=(n:Int)):=by omega
 have hz3:(cap:Int)<(n:Int)+1:=by omega
 have bg:(prog.info? 45).map (·.size)=some 4:=by rw[eE];simp[fu]
 have mU:(n:Int)+1-(i:Int)=((n+1-i:Nat):Int):=by omega
 have gr:i+(n+1-i)=n+1:=by omega
 have pG:(xs.take (i * 4)).length=i * 4:=by rw[Zx,cQ];omega
 have hold:(Builtin.firstCells i0.size i (.slice (some ⟨g,0,none⟩) i cap)).run prog w.drew= .ok (xs.take (i * 4)).toArray w.drew:=by
  rw[fu]
  exact run_firstCells_some w.drew 4 i ⟨g,0,none⟩ i cap (xs.take (i * 4)) pG (fun j v hj=>by
   rw[Addr.add_lit,ZH]
   rw[Y4]at hj
   split at hj
   ·exact gq j v hj
   ·cases hj)
 have lX:∀ ty,(Builtin.append_ #[22,3] ty #[.slice (some ⟨g,0,none⟩) i cap,.int .i64 ((n:Int)+1-(i:Int))]).run prog w=
   .ok (.slice (some ⟨w.heap.size,0,none⟩) (n+1) (grownCap w (n+1) cap 45)) (w.drew.alloc (.cells ((xs.take (i * 4)).toArray++Builtin.zeroCells zB.cells (n+1-i)++Builtin.zeroCells zB.cells (grownCap w (n+1) cap 45-(n+1))) 45)):=fun ty=>by
  have h:=Lib.run_append_grow_zeros w 22 3 ty 45 i0 _ .i64 .i64 underlying22 underlying3 eE dR (some ⟨g,0,none⟩) i cap (xs.take (i * 4)) hold (n+1-i) (by omega) (by omega) (by omega) (by omega) (by rw[ou];omega) (by rw[ou,gr];exact growslice_fits dL (by omega))
  rw[gr]at h
  rw[mU]
  exact h
 have jK:n+1≤grownCap w (n+1) cap 45:=grownCap_ge w _ _ _
 have jl:grownCap w (n+1) cap 45≤maxLen:=grownCap_le_maxLen w (n+1) cap 45 (by unfold maxLen;omega)
 obtain⟨G,hG⟩:∃ G,G=grownCap w (n+1) cap 45:=⟨_,rfl⟩
 obtain⟨ROW,ga⟩:∃ ROW:Array Value,ROW=(xs.take (i * 4)).toArray++Builtin.zeroCells zB.cells (n+1-i)++Builtin.zeroCells zB.cells (G-(n+1)):=⟨_,rfl⟩
 rw[← hG]at lX jK jl
 rw[← ga]at lX
 have lR:ROW.size=G * 4:=by
  rw[ga]
  simp only[Xk,Y0,pG,Builtin.zeroCells,Array.size_map,Array.size_range,Lf]
  omega
 have nR:ROW.toList.take (i * 4)=xs.take (i * 4):=by
  rw[ga]
  simp only[Xy,Zb]
  exact Y5 pG
 refine(?_:Calls _ _ _ _ _).mono (fun e w' h=>⟨G,ROW,jK,jl,lR,nR,h⟩)
 obtain⟨W1,dq⟩:∃ W1,W1=w.drew.alloc (.cells ROW 45):=⟨_,rfl⟩
 rw[← dq]at lX
 have hN:∀ j,j<G * 4→(W1.cell? ⟨w.heap.size,j,none⟩).isSome=true:=fun j hj=>by
  rw[dq,World.cell?_alloc_at (w:=w.drew) ROW _ w.heap.size j rfl,ZN (by omega)];rfl
 have uD:∀ j,W1.frozen? ⟨w.heap.size,j,none⟩=false:=fun j=>by rw[dq];exact World.frozen?_alloc_at (w:=w.drew) ROW _ w.heap.size j rfl
 have zM:∀ j v,w.cell? ⟨g,j,none⟩=some v→W1.cell? ⟨g,j,none⟩=some v:=fun j v h=>by rw[dq,World.cell?_alloc_past (w:=w.drew) _ g j lT];exact h
 have zN:∀ j v,w.cell? ⟨vb,j,none⟩=some v→W1.cell? ⟨vb,j,none⟩=some v:=fun j v h=>by rw[dq,World.cell?_alloc_past (w:=w.drew) _ vb j I6];exact h
 have oc:Nat.min 1 (n+1-i)=1:=by simp only[Xq];split<;>omega
 have iR:(xs.drop (i * 4)).length=(n-i) * 4:=by rw[YQ,cQ,Nat.sub_mul]
 have ew:Nat.min (n-i) (n-i)=n-i:=by simp only[Xq];split<;>omega
 have H8:∀ (W:World),(∀ x,W.cell? x=W1.cell? x)→(∀ x,W.frozen? x=W1.frozen? x)→∀ ty dc,(Builtin.copy_ #[22,22] ty #[.slice (some ⟨w.heap.size,i * 4,none⟩) (n+1-i) dc,.slice (some ⟨vb,0,none⟩) 1 1]).run prog W= .ok (goInt 1) (W.setCells w.heap.size (i * 4) vs):=fun W jm nT ty dc=>by
  rw[tC W _ _ ty 45 w.heap.size (i * 4) (n+1-i) dc ⟨vb,0,none⟩ 1 1 4 vs underlying22 bg (by rw[hl,oc])
   (fun j v hj=>by rw[Addr.add_lit,jm,ZH];exact zN _ v (hcell j v hj))
   (fun j hj=>by rw[jm];exact hN _ (by omega)) (fun j hj=>by rw[nT];exact uD _) h1,oc];rfl
 have abJ:G≤9223372036854775807:=by unfold maxLen at jl;omega
 have hGi:¬(G=i):=by omega
 have abL:¬(G=i+1):=by omega
 have mR:¬(cap=i):=by omega
 have HJ:g≠w.heap.size:=by omega
 have H9:∀ (W:World),(∀ x,W.cell? x=(W1.setCells w.heap.size (i * 4) vs).cell? x)→(∀ x,W.frozen? x=(W1.setCells w.heap.size (i * 4) vs).frozen? x)→∀ ty dc sc,(Builtin.copy_ #[22,22] ty #[.slice (some ⟨w.heap.size,(i+1) * 4,none⟩) (n-i) dc,.slice (some ⟨g,i * 4,none⟩) (n-i) sc]).run prog W= .ok (goInt ((n-i:Nat):Int)) (W.setCells w.heap.size ((i+1) * 4) (xs.drop (i * 4))):=fun W jm nT ty dc sc=>by
  rw[tC W _ _ ty 45 w.heap.size ((i+1) * 4) (n-i) dc ⟨g,i * 4,none⟩ (n-i) sc 4 (xs.drop (i * 4)) underlying22 bg (by rw[iR,ew])
   (fun j v hj=>by
    rw[Addr.add_lit,jm,World.cell?_setCells_out _ _ _ _ _ (fun h _=>absurd h HJ)]
    exact zM _ v (gq (i * 4+j) v (by rwa [Yz]at hj)))
   (fun j hj=>by rw[jm];exact isSome_setCells _ _ _ _ (fun t ht=>hN _ (by omega)) _ (hN _ (by rw[iR]at hj;omega)))
   (fun j hj=>by rw[nT,World.frozen?_setCells];exact uD _) (fun v hv=>j9 v (YE hv)),ew]
 subst dq
 have G9:∀ x,((w.alloc (.cells ROW 45)).drew).cell? x=(w.drew.alloc (.cells ROW 45)).cell? x:=fun x=>rfl
 have Hb:∀ x,((w.alloc (.cells ROW 45)).drew).frozen? x=(w.drew.alloc (.cells ROW 45)).frozen? x:=fun x=>rfl
 have Hg:∀ x,(((w.alloc (.cells ROW 45)).drew.setCells w.heap.size (i * 4) vs).drew).cell? x=((w.drew.alloc (.cells ROW 45)).setCells w.heap.size (i * 4) vs).cell? x:=fun x=>rfl
 have zK:∀ x,(((w.alloc (.cells ROW 45)).drew.setCells w.heap.size (i * 4) vs).drew).frozen? x=((w.drew.alloc (.cells ROW 45)).setCells w.heap.size (i * 4) vs).frozen? x:=fun x=>rfl
 have sQ:IntKind.i64.wrap ((i:Int)+1)=(i:Int)+1:=by rw[IntKind.wrap_i64];omega
 have lZ:IntKind.i64.wrap ((n:Int)+1)=(n:Int)+1:=by rw[IntKind.wrap_i64];omega
 have hw3:IntKind.i64.wrap ((n:Int)+1-(i:Int))=(n:Int)+1-(i:Int):=by rw[IntKind.wrap_i64];omega
 have su:(0:Int)≤(i:Int)+1:=by omega
 have de:i≤n:=by omega
 have qH:((i:Int)+1).toNat=i+1:=by omega
 have uJ:(i:Int)≤(n:Int):=by omega
 have C1:(i:Int)≤(n:Int)+1:=by omega
 have mixed:prog.follows Departure.mixedOrders=true:=by kernel_rfl
 clear mU gr hold ga hG lR nR pG cQ gq hcell hN uD zM zN bg iR
 go_enter func117,ntmps117
 go_wp2_with (first
  |(at_builtin;refine Lib.wpList_append_run _ rfl _ _ _ _ rfl _ _ rfl rfl _ _ (lX _) ?_)
  |(at_builtin;refine wpList_copy_runI _ rfl _ _ 22 22 rfl _ _ rfl rfl (H8 _ G9 Hb _ _) ?_))
 go_region_law_o (refine step_copy_runI rfl _ _ 22 22 rfl _ _ (by simp[Act.eval,Act.put]) (by simp[Act.eval,Act.put]) (H9 _ Hg zK 3 (G-(i+1)) (cap-i)) ?_)
 go_wp2
 go_ret
 exact⟨rfl,rfl⟩
end Go.Proofs.YthdeaajdmdmfnaaGreatDoor
