import Derived.Test.YtmemninechdogaaGreatDoorSxZ
import Derived.Shelf.RegionOpenPlain
import Derived.Lib.Walk
import Derived.Lib.SliceRun
import Derived.Lib.AppendZerosOnto
import Derived.Lib.Overlaps
import Derived.Maps.AppendAt
import Derived.Shelf.Spec.SlicesInsert
import Derived.Test.YtmemninechdogaaGreatDoorProg
set_option linter.all false
namespace Go.Sx
open Go.RowKit
theorem Tk{b:Nat}{t:TypeId}:∀(vs:List Value) (o:Nat) (w:World) (cs:Array Value),w.heap[b]? =some (.cells cs t (0,0))->o+vs.length<=cs.size->
  (∃cs',(w.setCells b o vs).heap[b]? =some (.cells cs' t (0,0))/\cs'.toList=over cs.toList o vs)/\(∀k,k≠b->(w.setCells b o vs).heap[k]? =w.heap[k]?)/\(w.setCells b o vs).os=w.os/\(w.setCells b o vs).tape=w.tape/\(w.setCells b o vs).output=w.output/\(w.setCells b o vs).heap.size=w.heap.size
 |[],o,w,cs,h,_=>⟨⟨cs,h,by simp[over]⟩,fun _ _=>rfl,rfl,rfl,rfl,rfl⟩
 |v::r,o,w,cs,h,hl=>by
  simp only[ZY]at hl;have hb:(w.setCell ⟨b,o,none⟩ v).heap[b]? =some (.cells (cs.setIfInBounds o v) t (0,0)):=by simp only[World.setCell,XW,YK,h];rfl
  obtain⟨⟨cs',h1,h2⟩,h3,h4,h5,h6,h7⟩:=Tk r (o+1) (w.setCell ⟨b,o,none⟩ v) _ hb (by simp;omega);simp only[World.setCells];refine⟨⟨cs',h1,?_⟩,fun k hk=>?_,h4,h5,h6,by rw[h7];simp[World.setCell]⟩
  .rw[h2];have ho:o<cs.toList.length:=by simp;omega
   refine List.ext_getElem? fun i=>?_;simp only[over,Array.toList_setIfInBounds,ZY,List.getElem?_append,Z7,ZL,XB,YV,List.getElem?_set,YE,List.getElem?_cons];simp only[Zu]at ho|-;grind
  .rw[h3 k hk];simp only[World.setCell,XW];rw[Z9 (fun e=>hk e.symm)]
section
variable {P:Program}[Glob P]{M:Mem}{w0:Base}{w:World}{q:Store}
theorem Inv.setCells{t b o:Nat}{l l':List AV}{vs:List Value}(hI:Inv P M w0 ((t,b,.cells l)::q) w)(hl:RL M l' vs)(ho:o+vs.length<=l.length):Inv P M w0 ((t,b,.cells (over l o l'))::q) (w.setCells b o vs):=by
 obtain⟨hM,cs,ty,hh,hR⟩:=(hI.st _ ZK).2;have hlen:l.length=cs.size:=by simpa using hR.1
 obtain⟨⟨cs',h1,h2⟩,h3,h4,h5,h6,h7⟩:=Tk vs o w cs hh (by omega);have:=hI.yV (tg:=t) (b:=b) (x:=.cells l) (y:=.cells (over l o l')) (w':=w.setCells b o vs) (by simp[aV]) h3 h4 h5 h6 h7 hM ⟨hM,cs',ty,h1,by rw[h2];exact RL.over hR hl o⟩;simpa[du]using this
end
end Go.Sx
namespace Go
variable {P:Program}
theorem uw(w:World)(dT sT ty elem:TypeId)(b o G5 abu:Nat)(a:Addr)(KQ akq k:Nat)(cs:List Value)
  (hu:P.underlying dT=some (.slice elem)) (hs:(P.info? elem).map (·.size)=some k) (hn:cs.length=Nat.min KQ G5*k)
  (rC:∀j v,cs[j]? =some v->w.cell? (a.add j)=some v) (hc:∀j,j<cs.length->(w.cell? ⟨b,o+j,none⟩).isSome=true) (hf:∀j,j<cs.length->w.frozen? ⟨b,o+j,none⟩=false) (h1:∀v∈cs,v.oneCell'=true):
  (Builtin.copy_ #[dT,sT] ty #[.slice (some ⟨b,o,none⟩) G5 abu,.slice (some a) KQ akq]).run P w= .ok (goInt (Nat.min KQ G5)) (w.setCells b o cs):=by
 have hl:=run_loadCells_list (P:=P) w a cs rC;have fD:=run_storeCells_cells (P:=P) b o cs 0 w (by simpa using hc) (by simpa using hf) h1;cases hq:P.info? elem with
 |none=>simp[hq]at hs|some i=>
  have hi:i.size=k:=by simpa[hq]using hs
  simp[Builtin.copy_,run_underlying hu,Builtin.lenOf,Builtin.firstCells,sizeOf,typeInfo,hq,hi,<-hn,hl,fD]
end Go
set_option maxRecDepth 100000
set_option maxHeartbeats 4000000
namespace Go.Proofs.YtmemninechdogaaGreatDoor
open _root_.Go.Proofs.Tryz
open Go.RowKit Go.Proofs Go.Shelf
def zF:Value:=.agg #[.string ⟨#[]⟩,.string ⟨#[]⟩,.int .i64 0,.slice none 0 0,.string ⟨#[]⟩,.int .i64 0,.string ⟨#[]⟩,.string ⟨#[]⟩,.string ⟨#[]⟩,.int .i64 0,.int .i64 0,.string ⟨#[]⟩,.slice none 0 0,.int .i64 0,.int .i64 0,.int .i64 0,.slice none 0 0,.int .i64 0]
theorem we:(prog.info? 37).map (fun i=>(i.zero,i.size,i.bytes))=some (some zF,18,248):=by kernel_rfl
theorem wS:zF.cells.size=18:=by kernel_rfl
theorem aeO{w:World}{n vb g cap:Nat}{vs:List Value}{cur cm:Array Value}{ta tb:TypeId}(hg:w.heap[g]? =some (.cells cm ta (0,0)))(bY:cm.size=cap*18)(eJ:n+1<=cap)(lT:cap<=maxLen)
  (hv:w.heap[vb]? =some (.cells cur tb (0,0))) (hc:cur.toList=vs) (hl:vs.length=18) (h1:∀u∈vs,u.oneCell'=true):
  Calls prog 173 #[.slice (some ⟨g,0,none⟩) n cap,.int .i64 n,.slice (some ⟨vb,0,none⟩) 1 1] w fun e w'=>e= .returned (.slice (some ⟨g,0,none⟩) (n+1) cap)/\w'=w.setCells g (n*18) vs:=by
 obtain⟨i0,eH,ew,fS,oX⟩:=info_parts we;have cY:∀ty,(Builtin.append_ #[23,23] ty #[.slice (some ⟨g,0,none⟩) n cap,.slice (some ⟨vb,0,none⟩) 1 1]).run prog w= .ok (.slice (some ⟨g,0,none⟩) (n+1) cap) (w.setCells g (n*18) vs):=fun ty=>by
  rw[run_append_room_cells w 23 ty 37 i0 underlying23 eH g 0 n cap ⟨vb,0,none⟩ 1 1 vs (by grind) (fun j u hj=>by
    rw[Addr.add_lit,ZH];simp only[World.cell?,hv]
    grind) h1 eJ (fun j hj=>by
    simp only[World.cell?,hg]
    grind) (fun j hj=>by simp[World.frozen?,hg]),fS,ZH]
 unfold maxLen at lT;clear hg hv hc bY
 go_enter func173,ntmps173
 go_wp2_with (at_builtin;refine Lib.wpList_append_run _ rfl _ _ _ _ rfl _ _ rfl rfl _ _ (cY _) ?_)
 all_goals(go_ret;simp_all)
theorem Qg{w:World}{n vb cap:Nat}{base:Option Addr}{xs vs:List Value}{cur:Array Value}{tb:TypeId}(ct:xs.length=n*18)(hx:∀w':World,w'.heap=w.heap->(Builtin.firstCells 18 n (.slice base n cap)).run prog w'= .ok xs.toArray w')(hb:base=none->n=0/\cap=0)(DQ:n<=cap)(eJ:cap<n+1)(hn:n<=100000)
  (hv:w.heap[vb]? =some (.cells cur tb (0,0))) (hc:cur.toList=vs) (hl:vs.length=18) (h1:∀u∈vs,u.oneCell'=true):
  Calls prog 173 #[.slice base n cap,.int .i64 n,.slice (some ⟨vb,0,none⟩) 1 1] w fun e w'=>∃(G:Nat) (pv:Array Value),n+1<=G/\G<=maxLen/\pv.size=G*18/\pv.toList.take ((n+1)*18)=xs++vs/\e= .returned (.slice (some ⟨w.heap.size,0,none⟩) (n+1) G)/\w'=(w.alloc (.cells pv 37)).drew:=by
 obtain⟨i0,eH,ew,fS,oX⟩:=info_parts we;have rC:Src prog i0.size 23 (.slice (some ⟨vb,0,none⟩) 1 1) 1 vs w:=by
  rw[fS];exact Src.ofSlice w underlying23 ⟨vb,0,none⟩ 1 1 vs (by omega) (fun j u hj=>by
   rw[Addr.add_lit,ZH];simp only[World.cell?,hv]
   grind) h1
 have hold:=hx w.drew rfl;rw[<-fS]at hold;have j4:n+1<=grownCap w (n+1) cap 37:=grownCap_ge w _ _ _;have jy:grownCap w (n+1) cap 37<=maxLen:=grownCap_le_maxLen w (n+1) cap 37 (by unfold maxLen;omega)
 have cY:∀ty,(Builtin.append_ #[23,23] ty #[.slice base n cap,.slice (some ⟨vb,0,none⟩) 1 1]).run prog w= .ok (.slice (some ⟨w.heap.size,0,none⟩) (n+1) (grownCap w (n+1) cap 37)) (w.drew.alloc (.cells ((xs++vs).toArray++Builtin.zeroCells zF.cells (grownCap w (n+1) cap 37-(n+1))) 37)):=fun ty=>
  run_append_grow_src w 23 23 ty 37 i0 _ underlying23 eH ew base n cap xs hold _ 1 vs rC eJ (by omega) (by rw[oX];exact growslice_fits eJ (by omega))
 obtain⟨G,hG⟩:∃G,G=grownCap w (n+1) cap 37:=⟨_,rfl⟩
 obtain⟨pv,gF⟩:∃pv:Array Value,pv=(xs++vs).toArray++Builtin.zeroCells zF.cells (G-(n+1)):=⟨_,rfl⟩
 rw[<-hG]at cY j4 jy;rw[<-gF]at cY;have mM:pv.size=G*18:=by rw[gF];simp only[Xb,YB,Z7,ct,hl,Builtin.zeroCells,Array.size_map,Array.size_range,wS];omega
 have oG:pv.toList.take ((n+1)*18)=xs++vs:=by rw[gF];simp only[Array.toList_append];exact Y2 (by rw[Z7,ct,hl];omega)
 refine(?_:Calls _ _ _ _ _).mono (fun e w' h=>⟨G,pv,j4,jy,mM,oG,h⟩);clear gF hG mM oG ct;clear hold rC hx hv hc j4 jy
 go_enter func173,ntmps173
 cases base with
 |none=>
  obtain⟨rfl,rfl⟩:=hb rfl
  go_wp2_with (at_builtin;refine Lib.wpList_append_run _ rfl _ _ _ _ rfl _ _ rfl rfl _ _ (cY _) ?_)
  all_goals(go_ret;exact⟨rfl,rfl⟩)
 |some a=>
  obtain⟨ab,ao,asp⟩:=a
  go_wp2_with (at_builtin;refine Lib.wpList_append_run _ rfl _ _ _ _ rfl _ _ rfl rfl _ _ (cY _) ?_)
  all_goals(go_ret;exact⟨rfl,rfl⟩)
theorem aeQ{w:World}{n i vb g cap:Nat}{xs vs:List Value}{cur cm:Array Value}{ta tb:TypeId}(hg:w.heap[g]? =some (.cells cm ta (0,0)))(bY:cm.size=cap*18)(iR:cm.toList.take (n*18)=xs)(kG:∀u∈xs,u.oneCell'=true)(hi:i<n)(eJ:n+1<=cap)(lT:cap<=maxLen)(aW:vb≠g)
  (hv:w.heap[vb]? =some (.cells cur tb (0,0))) (hc:cur.toList=vs) (hl:vs.length=18) (h1:∀u∈vs,u.oneCell'=true):
  Calls prog 173 #[.slice (some ⟨g,0,none⟩) n cap,.int .i64 i,.slice (some ⟨vb,0,none⟩) 1 1] w fun e w'=>e= .returned (.slice (some ⟨g,0,none⟩) (n+1) cap)/\w'=(w.drew.setCells g ((i+1)*18) (xs.drop (i*18))).setCells g (i*18) vs:=by
 unfold maxLen at lT;have ct:xs.length=n*18:=by rw[<-iR,ZL,Zu,bY,Ys (Y4 _ (by omega))]
 have AN:∀j u,vs[j]? =some u->w.cell? ⟨vb,j,none⟩=some u:=fun j u hj=>by simp only[World.cell?,hv];rw[<-hc,Zi]at hj;exact hj
 have gR:∀j u,xs[j]? =some u->w.cell? ⟨g,j,none⟩=some u:=fun j u hj=>by
  simp only[World.cell?,hg];rw[<-iR,YV]at hj;split at hj
  .rw[Zi]at hj;exact hj
  .cases hj
 have dM:∀j,j<cap*18->(w.cell? ⟨g,j,none⟩).isSome=true:=fun j hj=>by simp only[World.cell?,hg];simp[bY,hj]
 have hfz:∀j,w.frozen? ⟨g,j,none⟩=false:=fun j=>by simp[World.frozen?,hg]
 have vU:w.shape? vb=some (tb,cur.size):=by simp[World.shape?,hv]
 have Jt:w.shape? g=some (ta,cm.size):=by simp[World.shape?,hg]
 have mO:∀o,w.frozen? ⟨vb,o,none⟩=false:=fun o=>by simp[World.frozen?,hv]
 have I9:cm.size≠0:=by rw[bY];omega
 clear hg hv hc iR bY;have bl:(prog.info? 37).map (·.size)=some 18:=by obtain⟨i0,eH,h0,h1,h2⟩:=info_parts we;rw[eH];simp[h1]
 have DR:∀lb cb o,(callFunc 228 #[.slice (some ⟨vb,0,none⟩) 1 1,.slice (some ⟨g,o,none⟩) lb cb]).run prog w= .ok (.value (.bool false)) w:=fun lb cb o=>by
  rw[run_callFunc_extern func228 (by kernel_rfl) (by kernel_rfl) (by kernel_rfl) (e:=Extern.SlicesOverlaps.overlaps #[23,23] #[4]) (by kernel_rfl),
   Lib.run_overlaps_apart w 23 4 37 underlying23 18 sizeOf37 ⟨vb,0,none⟩ ⟨g,o,none⟩ 1 1 lb cb aW _ _ _ _ vU Jt I9 (mO _) (mO _)]
  rfl
 have iN:(xs.drop (i*18)).length=(n-i)*18:=by rw[YZ,ct,Nat.sub_mul]
 have tQ:IntKind.i64.wrap ((i:Int)+1)=(i:Int)+1:=by rw[IntKind.wrap_i64];omega
 have mU:IntKind.i64.wrap ((n:Int)+1)=(n:Int)+1:=by rw[IntKind.wrap_i64];omega
 have gV:¬((i:Int)=(n:Int)):=by omega
 have rm:(0:Int)<=(i:Int)+1:=by omega
 have dy:i<=n:=by omega
 have rF:((i:Int)+1).toNat=i+1:=by omega
 have mixed:prog.follows Departure.mixedOrders=true:=by kernel_rfl
 have dC:¬(cap=i+1):=by omega
 have vx:(i:Int)<=(n:Int)+1:=by omega
 have hb4:¬(cap=i):=by omega
 have oS:Nat.min 1 (n+1-i)=1:=by simp only[Xg];split<;>omega
 have fg:Nat.min (n+1-i) (n-i)=n-i:=by simp only[Xg];split<;>omega
 have Ak:∀ty dc sc,(Builtin.copy_ #[23,23] ty #[.slice (some ⟨g,(i+1)*18,none⟩) (n-i) dc,.slice (some ⟨g,i*18,none⟩) (n+1-i) sc]).run prog w.drew= .ok (goInt ((n-i:Nat):Int)) (w.drew.setCells g ((i+1)*18) (xs.drop (i*18))):=fun ty dc sc=>by
  rw[uw w.drew _ _ ty 37 g ((i+1)*18) (n-i) dc ⟨g,i*18,none⟩ (n+1-i) sc 18 (xs.drop (i*18)) underlying23 bl (by rw[iN,fg])
   (fun j v hj=>by rw[Addr.add_lit];exact gR (i*18+j) v (by rwa [YE]at hj))
   (fun j hj=>dM _ (by rw[iN]at hj;omega)) (fun j hj=>hfz _) (fun v hv=>kG v (YP hv)),fg]
 obtain⟨W1,ff⟩:∃W1,W1=w.drew.setCells g ((i+1)*18) (xs.drop (i*18)):=⟨_,rfl⟩
 have AR:∀k,k<cap*18->(W1.cell? ⟨g,k,none⟩).isSome=true:=fun k hk=>by
  rw[ff];by_cases dy:(i+1)*18<=k/\k<(i+1)*18+(xs.drop (i*18)).length
  .have:=World.cell?_setCells_in g (xs.drop (i*18)) ((i+1)*18) w.drew (fun j hj=>dM _ (by rw[iN]at hj;omega)) (k-(i+1)*18) (by omega);rw[show(i+1)*18+(k-(i+1)*18)=k by omega]at this;rw[this];rfl
  .rw[World.cell?_setCells_out g _ _ _ ⟨g,k,none⟩ (fun _ _=>by show k<(i+1)*18\/(i+1)*18+(xs.drop (i*18)).length<=k;omega)];exact dM k hk
 have IJ:∀(W:World),(∀x,W.cell? x=W1.cell? x)->(∀x,W.frozen? x=W1.frozen? x)->∀ty dc,(Builtin.copy_ #[23,23] ty #[.slice (some ⟨g,i*18,none⟩) (n+1-i) dc,.slice (some ⟨vb,0,none⟩) 1 1]).run prog W= .ok (goInt 1) (W.setCells g (i*18) vs):=fun W jz oJ ty dc=>by
  rw[uw W _ _ ty 37 g (i*18) (n+1-i) dc ⟨vb,0,none⟩ 1 1 18 vs underlying23 bl (by rw[hl,oS])
   (fun j v hj=>by
    rw[Addr.add_lit,jz,ff,ZH,World.cell?_setCells_out g _ _ _ _ (fun h _=>absurd h aW)]
    exact AN j v hj)
   (fun j hj=>by rw[jz];exact AR _ (by omega)) (fun j hj=>by rw[oJ,ff,World.frozen?_setCells];exact hfz _) h1,oS];rfl
 rw[<-ff]at Ak;clear ct gR dM AR hfz iN bl AN
 go_enter func173,ntmps173
 go_wp2_with (simp only[DR])
 go_region_law_o (refine step_copy_runI rfl _ _ 23 23 rfl _ _ (by simp[Act.eval,Act.put]) (by simp[Act.eval,Act.put]) (Ak _ _ _) ?_)
 go_wp2_with (at_builtin;refine wpList_copy_runI _ rfl _ _ 23 23 rfl _ _ rfl rfl (IJ _ (fun _=>rfl) (fun _=>rfl) _ _) ?_)
 go_ret
 first|exact⟨rfl,rfl⟩|fail
theorem aeK{w:World}{n i vb g cap:Nat}{xs vs:List Value}{cur cm:Array Value}{ta tb:TypeId}(hg:w.heap[g]? =some (.cells cm ta (0,0)))(bY:cm.size=cap*18)(iR:cm.toList.take (n*18)=xs)(kG:∀u∈xs,u.oneCell'=true)(hi:i<n)(DQ:n<=cap)(eJ:cap<n+1)(hn:n<=100000)
  (hv:w.heap[vb]? =some (.cells cur tb (0,0))) (hc:cur.toList=vs) (hl:vs.length=18) (h1:∀u∈vs,u.oneCell'=true):
  Calls prog 173 #[.slice (some ⟨g,0,none⟩) n cap,.int .i64 i,.slice (some ⟨vb,0,none⟩) 1 1] w fun e w'=>∃(G:Nat) (pv:Array Value),n+1<=G/\G<=maxLen/\pv.size=G*18/\pv.toList.take (i*18)=xs.take (i*18)/\e= .returned (.slice (some ⟨w.heap.size,0,none⟩) (n+1) G)/\w'=((((w.alloc (.cells pv 37)).drew).setCells w.heap.size (i*18) vs).drew).setCells w.heap.size ((i+1)*18) (xs.drop (i*18)):=by
 obtain⟨i0,eH,ew,fS,oX⟩:=info_parts we;have ct:xs.length=n*18:=by rw[<-iR,ZL,Zu,bY,Ys (Y4 _ (by omega))]
 have AN:∀j u,vs[j]? =some u->w.cell? ⟨vb,j,none⟩=some u:=fun j u hj=>by simp only[World.cell?,hv];rw[<-hc,Zi]at hj;exact hj
 have gR:∀j u,xs[j]? =some u->w.cell? ⟨g,j,none⟩=some u:=fun j u hj=>by
  simp only[World.cell?,hg];rw[<-iR,YV]at hj;split at hj
  .rw[Zi]at hj;exact hj
  .cases hj
 have mN:g<w.heap.size:=(ZW.1 hg).1;have JC:vb<w.heap.size:=(ZW.1 hv).1;clear hg hv hc iR bY;have gV:¬((i:Int)=(n:Int)):=by omega
 have hz3:(cap:Int)<(n:Int)+1:=by omega
 have bl:(prog.info? 37).map (·.size)=some 18:=by rw[eH];simp[fS]
 have jG:(n:Int)+1-(i:Int)=((n+1-i:Nat):Int):=by omega
 have gS:i+(n+1-i)=n+1:=by omega
 have qh:(xs.take (i*18)).length=i*18:=by rw[ZL,ct];omega
 have hold:(Builtin.firstCells i0.size i (.slice (some ⟨g,0,none⟩) i cap)).run prog w.drew= .ok (xs.take (i*18)).toArray w.drew:=by
  rw[fS];exact run_firstCells_some w.drew 18 i ⟨g,0,none⟩ i cap (xs.take (i*18)) qh (fun j v hj=>by
   rw[Addr.add_lit,ZH];rw[YV]at hj;split at hj
   .exact gR j v hj
   .cases hj)
 have mS:∀ty,(Builtin.append_ #[23,3] ty #[.slice (some ⟨g,0,none⟩) i cap,.int .i64 ((n:Int)+1-(i:Int))]).run prog w=
   .ok (.slice (some ⟨w.heap.size,0,none⟩) (n+1) (grownCap w (n+1) cap 37)) (w.drew.alloc (.cells ((xs.take (i*18)).toArray++Builtin.zeroCells zF.cells (n+1-i)++Builtin.zeroCells zF.cells (grownCap w (n+1) cap 37-(n+1))) 37)):=fun ty=>by
  have h:=Lib.run_append_grow_zeros w 23 3 ty 37 i0 _ .i64 .i64 underlying23 underlying3 eH ew (some ⟨g,0,none⟩) i cap (xs.take (i*18)) hold (n+1-i) (by omega) (by omega) (by omega) (by omega) (by rw[oX];omega) (by rw[oX,gS];exact growslice_fits eJ (by omega));rw[gS]at h;rw[jG];exact h
 have j4:n+1<=grownCap w (n+1) cap 37:=grownCap_ge w _ _ _;have jy:grownCap w (n+1) cap 37<=maxLen:=grownCap_le_maxLen w (n+1) cap 37 (by unfold maxLen;omega);obtain⟨G,hG⟩:∃G,G=grownCap w (n+1) cap 37:=⟨_,rfl⟩
 obtain⟨pv,gF⟩:∃pv:Array Value,pv=(xs.take (i*18)).toArray++Builtin.zeroCells zF.cells (n+1-i)++Builtin.zeroCells zF.cells (G-(n+1)):=⟨_,rfl⟩
 rw[<-hG]at mS j4 jy;rw[<-gF]at mS;have mM:pv.size=G*18:=by rw[gF];simp only[Xb,YB,qh,Builtin.zeroCells,Array.size_map,Array.size_range,wS];omega
 have oG:pv.toList.take (i*18)=xs.take (i*18):=by rw[gF];simp only[Array.toList_append,Zq];exact Y2 qh
 refine(?_:Calls _ _ _ _ _).mono (fun e w' h=>⟨G,pv,j4,jy,mM,oG,h⟩);obtain⟨W1,ff⟩:∃W1,W1=w.drew.alloc (.cells pv 37):=⟨_,rfl⟩
 rw[<-ff]at mS;have hN:∀j,j<G*18->(W1.cell? ⟨w.heap.size,j,none⟩).isSome=true:=fun j hj=>by rw[ff,World.cell?_alloc_at (w:=w.drew) pv _ w.heap.size j rfl,ZF (by omega)];rfl
 have vo:∀j,W1.frozen? ⟨w.heap.size,j,none⟩=false:=fun j=>by rw[ff];exact World.frozen?_alloc_at (w:=w.drew) pv _ w.heap.size j rfl
 have z8:∀j v,w.cell? ⟨g,j,none⟩=some v->W1.cell? ⟨g,j,none⟩=some v:=fun j v h=>by rw[ff,World.cell?_alloc_past (w:=w.drew) _ g j mN];exact h
 have Aa:∀j v,w.cell? ⟨vb,j,none⟩=some v->W1.cell? ⟨vb,j,none⟩=some v:=fun j v h=>by rw[ff,World.cell?_alloc_past (w:=w.drew) _ vb j JC];exact h
 have oS:Nat.min 1 (n+1-i)=1:=by simp only[Xg];split<;>omega
 have iN:(xs.drop (i*18)).length=(n-i)*18:=by rw[YZ,ct,Nat.sub_mul]
 have fg:Nat.min (n-i) (n-i)=n-i:=by simp only[Xg];split<;>omega
 have IK:∀(W:World),(∀x,W.cell? x=W1.cell? x)->(∀x,W.frozen? x=W1.frozen? x)->∀ty dc,(Builtin.copy_ #[23,23] ty #[.slice (some ⟨w.heap.size,i*18,none⟩) (n+1-i) dc,.slice (some ⟨vb,0,none⟩) 1 1]).run prog W= .ok (goInt 1) (W.setCells w.heap.size (i*18) vs):=fun W jz oJ ty dc=>by
  rw[uw W _ _ ty 37 w.heap.size (i*18) (n+1-i) dc ⟨vb,0,none⟩ 1 1 18 vs underlying23 bl (by rw[hl,oS])
   (fun j v hj=>by rw[Addr.add_lit,jz,ZH];exact Aa _ v (AN j v hj))
   (fun j hj=>by rw[jz];exact hN _ (by omega)) (fun j hj=>by rw[oJ];exact vo _) h1,oS];rfl
 have adt:G<=9223372036854775807:=by unfold maxLen at jy;omega
 have hGi:¬(G=i):=by omega
 have adv:¬(G=i+1):=by omega
 have nG:¬(cap=i):=by omega
 have tA:g≠w.heap.size:=by omega
 have IL:∀(W:World),(∀x,W.cell? x=(W1.setCells w.heap.size (i*18) vs).cell? x)->(∀x,W.frozen? x=(W1.setCells w.heap.size (i*18) vs).frozen? x)->∀ty dc sc,(Builtin.copy_ #[23,23] ty #[.slice (some ⟨w.heap.size,(i+1)*18,none⟩) (n-i) dc,.slice (some ⟨g,i*18,none⟩) (n-i) sc]).run prog W= .ok (goInt ((n-i:Nat):Int)) (W.setCells w.heap.size ((i+1)*18) (xs.drop (i*18))):=fun W jz oJ ty dc sc=>by
  rw[uw W _ _ ty 37 w.heap.size ((i+1)*18) (n-i) dc ⟨g,i*18,none⟩ (n-i) sc 18 (xs.drop (i*18)) underlying23 bl (by rw[iN,fg])
   (fun j v hj=>by
    rw[Addr.add_lit,jz,World.cell?_setCells_out _ _ _ _ _ (fun h _=>absurd h tA)]
    exact z8 _ v (gR (i*18+j) v (by rwa [YE]at hj)))
   (fun j hj=>by rw[jz];exact isSome_setCells _ _ _ _ (fun t ht=>hN _ (by omega)) _ (hN _ (by rw[iN]at hj;omega)))
   (fun j hj=>by rw[oJ,World.frozen?_setCells];exact vo _) (fun v hv=>kG v (YP hv)),fg]
 subst ff;have Io:∀x,((w.alloc (.cells pv 37)).drew).cell? x=(w.drew.alloc (.cells pv 37)).cell? x:=fun x=>rfl;have Ip:∀x,((w.alloc (.cells pv 37)).drew).frozen? x=(w.drew.alloc (.cells pv 37)).frozen? x:=fun x=>rfl;have Ir:∀x,(((w.alloc (.cells pv 37)).drew.setCells w.heap.size (i*18) vs).drew).cell? x=((w.drew.alloc (.cells pv 37)).setCells w.heap.size (i*18) vs).cell? x:=fun x=>rfl;have z7:∀x,(((w.alloc (.cells pv 37)).drew.setCells w.heap.size (i*18) vs).drew).frozen? x=((w.drew.alloc (.cells pv 37)).setCells w.heap.size (i*18) vs).frozen? x:=fun x=>rfl;have tQ:IntKind.i64.wrap ((i:Int)+1)=(i:Int)+1:=by rw[IntKind.wrap_i64];omega
 have mU:IntKind.i64.wrap ((n:Int)+1)=(n:Int)+1:=by rw[IntKind.wrap_i64];omega
 have hw3:IntKind.i64.wrap ((n:Int)+1-(i:Int))=(n:Int)+1-(i:Int):=by rw[IntKind.wrap_i64];omega
 have rm:(0:Int)<=(i:Int)+1:=by omega
 have dy:i<=n:=by omega
 have rF:((i:Int)+1).toNat=i+1:=by omega
 have vx:(i:Int)<=(n:Int):=by omega
 have Dy:(i:Int)<=(n:Int)+1:=by omega
 have mixed:prog.follows Departure.mixedOrders=true:=by kernel_rfl
 clear jG gS hold gF hG mM oG qh ct gR AN hN vo z8 Aa bl iN
 go_enter func173,ntmps173
 go_wp2_with (first
  |(at_builtin;refine Lib.wpList_append_run _ rfl _ _ _ _ rfl _ _ rfl rfl _ _ (mS _) ?_)
  |(at_builtin;refine wpList_copy_runI _ rfl _ _ 23 23 rfl _ _ rfl rfl (IK _ Io Ip _ _) ?_))
 go_region_law_o (refine step_copy_runI rfl _ _ 23 23 rfl _ _ (by simp[Act.eval,Act.put]) (by simp[Act.eval,Act.put]) (IL _ Ir z7 3 (G-(i+1)) (cap-i)) ?_)
 go_wp2
 go_ret
 exact⟨rfl,rfl⟩
def zB:Value:=.agg #[.string ⟨#[]⟩,.string ⟨#[]⟩,.slice none 0 0,.int .i64 0]
theorem A1:(prog.info? 45).map (fun i=>(i.zero,i.size,i.bytes))=some (some zB,4,64):=by kernel_rfl
theorem LR:zB.cells.size=4:=by kernel_rfl
theorem aeN{w:World}{n vb g cap:Nat}{vs:List Value}{cur cm:Array Value}{ta tb:TypeId}(hg:w.heap[g]? =some (.cells cm ta (0,0)))(bY:cm.size=cap*4)(eJ:n+1<=cap)(lT:cap<=maxLen)
  (hv:w.heap[vb]? =some (.cells cur tb (0,0))) (hc:cur.toList=vs) (hl:vs.length=4) (h1:∀u∈vs,u.oneCell'=true):
  Calls prog 124 #[.slice (some ⟨g,0,none⟩) n cap,.int .i64 n,.slice (some ⟨vb,0,none⟩) 1 1] w fun e w'=>e= .returned (.slice (some ⟨g,0,none⟩) (n+1) cap)/\w'=w.setCells g (n*4) vs:=by
 obtain⟨i0,eH,ew,fS,oX⟩:=info_parts A1;have cY:∀ty,(Builtin.append_ #[22,22] ty #[.slice (some ⟨g,0,none⟩) n cap,.slice (some ⟨vb,0,none⟩) 1 1]).run prog w= .ok (.slice (some ⟨g,0,none⟩) (n+1) cap) (w.setCells g (n*4) vs):=fun ty=>by
  rw[run_append_room_cells w 22 ty 45 i0 underlying22 eH g 0 n cap ⟨vb,0,none⟩ 1 1 vs (by rw[fS,hl]) (fun j u hj=>by
    rw[Addr.add_lit,ZH];simp only[World.cell?,hv];rw[<-hc,Zi]at hj
    exact hj) h1 eJ (fun j hj=>by
    simp only[World.cell?,hg];simp[bY,fS]
    omega) (fun j hj=>by simp[World.frozen?,hg]),fS,ZH]
 unfold maxLen at lT;clear hg hv hc bY
 go_enter func124,ntmps124
 go_wp2_with (at_builtin;refine Lib.wpList_append_run _ rfl _ _ _ _ rfl _ _ rfl rfl _ _ (cY _) ?_)
 all_goals(go_ret;exact⟨rfl,rfl⟩)
theorem Qf{w:World}{n vb cap:Nat}{base:Option Addr}{xs vs:List Value}{cur:Array Value}{tb:TypeId}(ct:xs.length=n*4)(hx:∀w':World,w'.heap=w.heap->(Builtin.firstCells 4 n (.slice base n cap)).run prog w'= .ok xs.toArray w')(hb:base=none->n=0/\cap=0)(DQ:n<=cap)(eJ:cap<n+1)(hn:n<=100000)
  (hv:w.heap[vb]? =some (.cells cur tb (0,0))) (hc:cur.toList=vs) (hl:vs.length=4) (h1:∀u∈vs,u.oneCell'=true):
  Calls prog 124 #[.slice base n cap,.int .i64 n,.slice (some ⟨vb,0,none⟩) 1 1] w fun e w'=>∃(G:Nat) (pv:Array Value),n+1<=G/\G<=maxLen/\pv.size=G*4/\pv.toList.take ((n+1)*4)=xs++vs/\e= .returned (.slice (some ⟨w.heap.size,0,none⟩) (n+1) G)/\w'=(w.alloc (.cells pv 45)).drew:=by
 obtain⟨i0,eH,ew,fS,oX⟩:=info_parts A1;have rC:Src prog i0.size 22 (.slice (some ⟨vb,0,none⟩) 1 1) 1 vs w:=by
  rw[fS];exact Src.ofSlice w underlying22 ⟨vb,0,none⟩ 1 1 vs (by omega) (fun j u hj=>by
   rw[Addr.add_lit,ZH];simp only[World.cell?,hv];rw[<-hc,Zi]at hj
   exact hj) h1
 have hold:=hx w.drew rfl;rw[<-fS]at hold;have j4:n+1<=grownCap w (n+1) cap 45:=grownCap_ge w _ _ _;have jy:grownCap w (n+1) cap 45<=maxLen:=grownCap_le_maxLen w (n+1) cap 45 (by unfold maxLen;omega)
 have cY:∀ty,(Builtin.append_ #[22,22] ty #[.slice base n cap,.slice (some ⟨vb,0,none⟩) 1 1]).run prog w= .ok (.slice (some ⟨w.heap.size,0,none⟩) (n+1) (grownCap w (n+1) cap 45)) (w.drew.alloc (.cells ((xs++vs).toArray++Builtin.zeroCells zB.cells (grownCap w (n+1) cap 45-(n+1))) 45)):=fun ty=>
  run_append_grow_src w 22 22 ty 45 i0 _ underlying22 eH ew base n cap xs hold _ 1 vs rC eJ (by omega) (by rw[oX];exact growslice_fits eJ (by omega))
 obtain⟨G,hG⟩:∃G,G=grownCap w (n+1) cap 45:=⟨_,rfl⟩
 obtain⟨pv,gF⟩:∃pv:Array Value,pv=(xs++vs).toArray++Builtin.zeroCells zB.cells (G-(n+1)):=⟨_,rfl⟩
 rw[<-hG]at cY j4 jy;rw[<-gF]at cY;have mM:pv.size=G*4:=by rw[gF];simp only[Xb,YB,Z7,ct,hl,Builtin.zeroCells,Array.size_map,Array.size_range,LR];omega
 have oG:pv.toList.take ((n+1)*4)=xs++vs:=by rw[gF];simp only[Array.toList_append];exact Y2 (by rw[Z7,ct,hl];omega)
 refine(?_:Calls _ _ _ _ _).mono (fun e w' h=>⟨G,pv,j4,jy,mM,oG,h⟩);clear gF hG mM oG ct;clear hold rC hx hv hc j4 jy
 go_enter func124,ntmps124
 cases base with
 |none=>
  obtain⟨rfl,rfl⟩:=hb rfl
  go_wp2_with (at_builtin;refine Lib.wpList_append_run _ rfl _ _ _ _ rfl _ _ rfl rfl _ _ (cY _) ?_)
  all_goals(go_ret;exact⟨rfl,rfl⟩)
 |some a=>
  obtain⟨ab,ao,asp⟩:=a
  go_wp2_with (at_builtin;refine Lib.wpList_append_run _ rfl _ _ _ _ rfl _ _ rfl rfl _ _ (cY _) ?_)
  all_goals(go_ret;exact⟨rfl,rfl⟩)
theorem aeP{w:World}{n i vb g cap:Nat}{xs vs:List Value}{cur cm:Array Value}{ta tb:TypeId}(hg:w.heap[g]? =some (.cells cm ta (0,0)))(bY:cm.size=cap*4)(iR:cm.toList.take (n*4)=xs)(kG:∀u∈xs,u.oneCell'=true)(hi:i<n)(eJ:n+1<=cap)(lT:cap<=maxLen)(aW:vb≠g)
  (hv:w.heap[vb]? =some (.cells cur tb (0,0))) (hc:cur.toList=vs) (hl:vs.length=4) (h1:∀u∈vs,u.oneCell'=true):
  Calls prog 124 #[.slice (some ⟨g,0,none⟩) n cap,.int .i64 i,.slice (some ⟨vb,0,none⟩) 1 1] w fun e w'=>e= .returned (.slice (some ⟨g,0,none⟩) (n+1) cap)/\w'=(w.drew.setCells g ((i+1)*4) (xs.drop (i*4))).setCells g (i*4) vs:=by
 unfold maxLen at lT;have ct:xs.length=n*4:=by rw[<-iR,ZL,Zu,bY,Ys (Y4 _ (by omega))]
 have AN:∀j u,vs[j]? =some u->w.cell? ⟨vb,j,none⟩=some u:=fun j u hj=>by simp only[World.cell?,hv];rw[<-hc,Zi]at hj;exact hj
 have gR:∀j u,xs[j]? =some u->w.cell? ⟨g,j,none⟩=some u:=fun j u hj=>by
  simp only[World.cell?,hg];rw[<-iR,YV]at hj;split at hj
  .rw[Zi]at hj;exact hj
  .cases hj
 have dM:∀j,j<cap*4->(w.cell? ⟨g,j,none⟩).isSome=true:=fun j hj=>by simp only[World.cell?,hg];simp[bY,hj]
 have hfz:∀j,w.frozen? ⟨g,j,none⟩=false:=fun j=>by simp[World.frozen?,hg]
 have vU:w.shape? vb=some (tb,cur.size):=by simp[World.shape?,hv]
 have Jt:w.shape? g=some (ta,cm.size):=by simp[World.shape?,hg]
 have mO:∀o,w.frozen? ⟨vb,o,none⟩=false:=fun o=>by simp[World.frozen?,hv]
 have I9:cm.size≠0:=by rw[bY];omega
 clear hg hv hc iR bY;have bl:(prog.info? 45).map (·.size)=some 4:=by obtain⟨i0,eH,h0,h1,h2⟩:=info_parts A1;rw[eH];simp[h1]
 have DR:∀lb cb o,(callFunc 168 #[.slice (some ⟨vb,0,none⟩) 1 1,.slice (some ⟨g,o,none⟩) lb cb]).run prog w= .ok (.value (.bool false)) w:=fun lb cb o=>by
  rw[run_callFunc_extern func168 (by kernel_rfl) (by kernel_rfl) (by kernel_rfl) (e:=Extern.SlicesOverlaps.overlaps #[22,22] #[4]) (by kernel_rfl),
   Lib.run_overlaps_apart w 22 4 45 underlying22 4 sizeOf45 ⟨vb,0,none⟩ ⟨g,o,none⟩ 1 1 lb cb aW _ _ _ _ vU Jt I9 (mO _) (mO _)]
  rfl
 have iN:(xs.drop (i*4)).length=(n-i)*4:=by rw[YZ,ct,Nat.sub_mul]
 have tQ:IntKind.i64.wrap ((i:Int)+1)=(i:Int)+1:=by rw[IntKind.wrap_i64];omega
 have mU:IntKind.i64.wrap ((n:Int)+1)=(n:Int)+1:=by rw[IntKind.wrap_i64];omega
 have gV:¬((i:Int)=(n:Int)):=by omega
 have rm:(0:Int)<=(i:Int)+1:=by omega
 have dy:i<=n:=by omega
 have rF:((i:Int)+1).toNat=i+1:=by omega
 have mixed:prog.follows Departure.mixedOrders=true:=by kernel_rfl
 have dC:¬(cap=i+1):=by omega
 have vx:(i:Int)<=(n:Int)+1:=by omega
 have hb4:¬(cap=i):=by omega
 have oS:Nat.min 1 (n+1-i)=1:=by simp only[Xg];split<;>omega
 have fg:Nat.min (n+1-i) (n-i)=n-i:=by simp only[Xg];split<;>omega
 have Ak:∀ty dc sc,(Builtin.copy_ #[22,22] ty #[.slice (some ⟨g,(i+1)*4,none⟩) (n-i) dc,.slice (some ⟨g,i*4,none⟩) (n+1-i) sc]).run prog w.drew= .ok (goInt ((n-i:Nat):Int)) (w.drew.setCells g ((i+1)*4) (xs.drop (i*4))):=fun ty dc sc=>by
  rw[uw w.drew _ _ ty 45 g ((i+1)*4) (n-i) dc ⟨g,i*4,none⟩ (n+1-i) sc 4 (xs.drop (i*4)) underlying22 bl (by rw[iN,fg])
   (fun j v hj=>by rw[Addr.add_lit];exact gR (i*4+j) v (by rwa [YE]at hj))
   (fun j hj=>dM _ (by rw[iN]at hj;omega)) (fun j hj=>hfz _) (fun v hv=>kG v (YP hv)),fg]
 obtain⟨W1,ff⟩:∃W1,W1=w.drew.setCells g ((i+1)*4) (xs.drop (i*4)):=⟨_,rfl⟩
 have AR:∀k,k<cap*4->(W1.cell? ⟨g,k,none⟩).isSome=true:=fun k hk=>by
  rw[ff];by_cases dy:(i+1)*4<=k/\k<(i+1)*4+(xs.drop (i*4)).length
  .have:=World.cell?_setCells_in g (xs.drop (i*4)) ((i+1)*4) w.drew (fun j hj=>dM _ (by rw[iN]at hj;omega)) (k-(i+1)*4) (by omega);rw[show(i+1)*4+(k-(i+1)*4)=k by omega]at this;rw[this];rfl
  .rw[World.cell?_setCells_out g _ _ _ ⟨g,k,none⟩ (fun _ _=>by show k<(i+1)*4\/(i+1)*4+(xs.drop (i*4)).length<=k;omega)];exact dM k hk
 have IJ:∀(W:World),(∀x,W.cell? x=W1.cell? x)->(∀x,W.frozen? x=W1.frozen? x)->∀ty dc,(Builtin.copy_ #[22,22] ty #[.slice (some ⟨g,i*4,none⟩) (n+1-i) dc,.slice (some ⟨vb,0,none⟩) 1 1]).run prog W= .ok (goInt 1) (W.setCells g (i*4) vs):=fun W jz oJ ty dc=>by
  rw[uw W _ _ ty 45 g (i*4) (n+1-i) dc ⟨vb,0,none⟩ 1 1 4 vs underlying22 bl (by rw[hl,oS])
   (fun j v hj=>by
    rw[Addr.add_lit,jz,ff,ZH,World.cell?_setCells_out g _ _ _ _ (fun h _=>absurd h aW)]
    exact AN j v hj)
   (fun j hj=>by rw[jz];exact AR _ (by omega)) (fun j hj=>by rw[oJ,ff,World.frozen?_setCells];exact hfz _) h1,oS];rfl
 rw[<-ff]at Ak;clear ct gR dM AR hfz iN bl AN
 go_enter func124,ntmps124
 go_wp2_with (simp only[DR])
 go_region_law_o (refine step_copy_runI rfl _ _ 22 22 rfl _ _ (by simp[Act.eval,Act.put]) (by simp[Act.eval,Act.put]) (Ak _ _ _) ?_)
 go_wp2_with (at_builtin;refine wpList_copy_runI _ rfl _ _ 22 22 rfl _ _ rfl rfl (IJ _ (fun _=>rfl) (fun _=>rfl) _ _) ?_)
 go_ret
 first|exact⟨rfl,rfl⟩|fail
theorem aeJ{w:World}{n i vb g cap:Nat}{xs vs:List Value}{cur cm:Array Value}{ta tb:TypeId}(hg:w.heap[g]? =some (.cells cm ta (0,0)))(bY:cm.size=cap*4)(iR:cm.toList.take (n*4)=xs)(kG:∀u∈xs,u.oneCell'=true)(hi:i<n)(DQ:n<=cap)(eJ:cap<n+1)(hn:n<=100000)
  (hv:w.heap[vb]? =some (.cells cur tb (0,0))) (hc:cur.toList=vs) (hl:vs.length=4) (h1:∀u∈vs,u.oneCell'=true):
  Calls prog 124 #[.slice (some ⟨g,0,none⟩) n cap,.int .i64 i,.slice (some ⟨vb,0,none⟩) 1 1] w fun e w'=>∃(G:Nat) (pv:Array Value),n+1<=G/\G<=maxLen/\pv.size=G*4/\pv.toList.take (i*4)=xs.take (i*4)/\e= .returned (.slice (some ⟨w.heap.size,0,none⟩) (n+1) G)/\w'=((((w.alloc (.cells pv 45)).drew).setCells w.heap.size (i*4) vs).drew).setCells w.heap.size ((i+1)*4) (xs.drop (i*4)):=by
 obtain⟨i0,eH,ew,fS,oX⟩:=info_parts A1;have ct:xs.length=n*4:=by rw[<-iR,ZL,Zu,bY,Ys (Y4 _ (by omega))]
 have AN:∀j u,vs[j]? =some u->w.cell? ⟨vb,j,none⟩=some u:=fun j u hj=>by simp only[World.cell?,hv];rw[<-hc,Zi]at hj;exact hj
 have gR:∀j u,xs[j]? =some u->w.cell? ⟨g,j,none⟩=some u:=fun j u hj=>by
  simp only[World.cell?,hg];rw[<-iR,YV]at hj;split at hj
  .rw[Zi]at hj;exact hj
  .cases hj
 have mN:g<w.heap.size:=(ZW.1 hg).1;have JC:vb<w.heap.size:=(ZW.1 hv).1;clear hg hv hc iR bY;have gV:¬((i:Int)=(n:Int)):=by omega
 have hz3:(cap:Int)<(n:Int)+1:=by omega
 have bl:(prog.info? 45).map (·.size)=some 4:=by rw[eH];simp[fS]
 have jG:(n:Int)+1-(i:Int)=((n+1-i:Nat):Int):=by omega
 have gS:i+(n+1-i)=n+1:=by omega
 have qh:(xs.take (i*4)).length=i*4:=by rw[ZL,ct];omega
 have hold:(Builtin.firstCells i0.size i (.slice (some ⟨g,0,none⟩) i cap)).run prog w.drew= .ok (xs.take (i*4)).toArray w.drew:=by
  rw[fS];exact run_firstCells_some w.drew 4 i ⟨g,0,none⟩ i cap (xs.take (i*4)) qh (fun j v hj=>by
   rw[Addr.add_lit,ZH];rw[YV]at hj;split at hj
   .exact gR j v hj
   .cases hj)
 have mS:∀ty,(Builtin.append_ #[22,3] ty #[.slice (some ⟨g,0,none⟩) i cap,.int .i64 ((n:Int)+1-(i:Int))]).run prog w=
   .ok (.slice (some ⟨w.heap.size,0,none⟩) (n+1) (grownCap w (n+1) cap 45)) (w.drew.alloc (.cells ((xs.take (i*4)).toArray++Builtin.zeroCells zB.cells (n+1-i)++Builtin.zeroCells zB.cells (grownCap w (n+1) cap 45-(n+1))) 45)):=fun ty=>by
  have h:=Lib.run_append_grow_zeros w 22 3 ty 45 i0 _ .i64 .i64 underlying22 underlying3 eH ew (some ⟨g,0,none⟩) i cap (xs.take (i*4)) hold (n+1-i) (by omega) (by omega) (by omega) (by omega) (by rw[oX];omega) (by rw[oX,gS];exact growslice_fits eJ (by omega));rw[gS]at h;rw[jG];exact h
 have j4:n+1<=grownCap w (n+1) cap 45:=grownCap_ge w _ _ _;have jy:grownCap w (n+1) cap 45<=maxLen:=grownCap_le_maxLen w (n+1) cap 45 (by unfold maxLen;omega);obtain⟨G,hG⟩:∃G,G=grownCap w (n+1) cap 45:=⟨_,rfl⟩
 obtain⟨pv,gF⟩:∃pv:Array Value,pv=(xs.take (i*4)).toArray++Builtin.zeroCells zB.cells (n+1-i)++Builtin.zeroCells zB.cells (G-(n+1)):=⟨_,rfl⟩
 rw[<-hG]at mS j4 jy;rw[<-gF]at mS;have mM:pv.size=G*4:=by rw[gF];simp only[Xb,YB,qh,Builtin.zeroCells,Array.size_map,Array.size_range,LR];omega
 have oG:pv.toList.take (i*4)=xs.take (i*4):=by rw[gF];simp only[Array.toList_append,Zq];exact Y2 qh
 refine(?_:Calls _ _ _ _ _).mono (fun e w' h=>⟨G,pv,j4,jy,mM,oG,h⟩);obtain⟨W1,ff⟩:∃W1,W1=w.drew.alloc (.cells pv 45):=⟨_,rfl⟩
 rw[<-ff]at mS;have hN:∀j,j<G*4->(W1.cell? ⟨w.heap.size,j,none⟩).isSome=true:=fun j hj=>by rw[ff,World.cell?_alloc_at (w:=w.drew) pv _ w.heap.size j rfl,ZF (by omega)];rfl
 have vo:∀j,W1.frozen? ⟨w.heap.size,j,none⟩=false:=fun j=>by rw[ff];exact World.frozen?_alloc_at (w:=w.drew) pv _ w.heap.size j rfl
 have z8:∀j v,w.cell? ⟨g,j,none⟩=some v->W1.cell? ⟨g,j,none⟩=some v:=fun j v h=>by rw[ff,World.cell?_alloc_past (w:=w.drew) _ g j mN];exact h
 have Aa:∀j v,w.cell? ⟨vb,j,none⟩=some v->W1.cell? ⟨vb,j,none⟩=some v:=fun j v h=>by rw[ff,World.cell?_alloc_past (w:=w.drew) _ vb j JC];exact h
 have oS:Nat.min 1 (n+1-i)=1:=by simp only[Xg];split<;>omega
 have iN:(xs.drop (i*4)).length=(n-i)*4:=by rw[YZ,ct,Nat.sub_mul]
 have fg:Nat.min (n-i) (n-i)=n-i:=by simp only[Xg];split<;>omega
 have IK:∀(W:World),(∀x,W.cell? x=W1.cell? x)->(∀x,W.frozen? x=W1.frozen? x)->∀ty dc,(Builtin.copy_ #[22,22] ty #[.slice (some ⟨w.heap.size,i*4,none⟩) (n+1-i) dc,.slice (some ⟨vb,0,none⟩) 1 1]).run prog W= .ok (goInt 1) (W.setCells w.heap.size (i*4) vs):=fun W jz oJ ty dc=>by
  rw[uw W _ _ ty 45 w.heap.size (i*4) (n+1-i) dc ⟨vb,0,none⟩ 1 1 4 vs underlying22 bl (by rw[hl,oS])
   (fun j v hj=>by rw[Addr.add_lit,jz,ZH];exact Aa _ v (AN j v hj))
   (fun j hj=>by rw[jz];exact hN _ (by omega)) (fun j hj=>by rw[oJ];exact vo _) h1,oS];rfl
 have adt:G<=9223372036854775807:=by unfold maxLen at jy;omega
 have hGi:¬(G=i):=by omega
 have adv:¬(G=i+1):=by omega
 have nG:¬(cap=i):=by omega
 have tA:g≠w.heap.size:=by omega
 have IL:∀(W:World),(∀x,W.cell? x=(W1.setCells w.heap.size (i*4) vs).cell? x)->(∀x,W.frozen? x=(W1.setCells w.heap.size (i*4) vs).frozen? x)->∀ty dc sc,(Builtin.copy_ #[22,22] ty #[.slice (some ⟨w.heap.size,(i+1)*4,none⟩) (n-i) dc,.slice (some ⟨g,i*4,none⟩) (n-i) sc]).run prog W= .ok (goInt ((n-i:Nat):Int)) (W.setCells w.heap.size ((i+1)*4) (xs.drop (i*4))):=fun W jz oJ ty dc sc=>by
  rw[uw W _ _ ty 45 w.heap.size ((i+1)*4) (n-i) dc ⟨g,i*4,none⟩ (n-i) sc 4 (xs.drop (i*4)) underlying22 bl (by rw[iN,fg])
   (fun j v hj=>by
    rw[Addr.add_lit,jz,World.cell?_setCells_out _ _ _ _ _ (fun h _=>absurd h tA)]
    exact z8 _ v (gR (i*4+j) v (by rwa [YE]at hj)))
   (fun j hj=>by rw[jz];exact isSome_setCells _ _ _ _ (fun t ht=>hN _ (by omega)) _ (hN _ (by rw[iN]at hj;omega)))
   (fun j hj=>by rw[oJ,World.frozen?_setCells];exact vo _) (fun v hv=>kG v (YP hv)),fg]
 subst ff;have Io:∀x,((w.alloc (.cells pv 45)).drew).cell? x=(w.drew.alloc (.cells pv 45)).cell? x:=fun x=>rfl;have Ip:∀x,((w.alloc (.cells pv 45)).drew).frozen? x=(w.drew.alloc (.cells pv 45)).frozen? x:=fun x=>rfl;have Ir:∀x,(((w.alloc (.cells pv 45)).drew.setCells w.heap.size (i*4) vs).drew).cell? x=((w.drew.alloc (.cells pv 45)).setCells w.heap.size (i*4) vs).cell? x:=fun x=>rfl;have z7:∀x,(((w.alloc (.cells pv 45)).drew.setCells w.heap.size (i*4) vs).drew).frozen? x=((w.drew.alloc (.cells pv 45)).setCells w.heap.size (i*4) vs).frozen? x:=fun x=>rfl;have tQ:IntKind.i64.wrap ((i:Int)+1)=(i:Int)+1:=by rw[IntKind.wrap_i64];omega
 have mU:IntKind.i64.wrap ((n:Int)+1)=(n:Int)+1:=by rw[IntKind.wrap_i64];omega
 have hw3:IntKind.i64.wrap ((n:Int)+1-(i:Int))=(n:Int)+1-(i:Int):=by rw[IntKind.wrap_i64];omega
 have rm:(0:Int)<=(i:Int)+1:=by omega
 have dy:i<=n:=by omega
 have rF:((i:Int)+1).toNat=i+1:=by omega
 have vx:(i:Int)<=(n:Int):=by omega
 have Dy:(i:Int)<=(n:Int)+1:=by omega
 have mixed:prog.follows Departure.mixedOrders=true:=by kernel_rfl
 clear jG gS hold gF hG mM oG qh ct gR AN hN vo z8 Aa bl iN
 go_enter func124,ntmps124
 go_wp2_with (first
  |(at_builtin;refine Lib.wpList_append_run _ rfl _ _ _ _ rfl _ _ rfl rfl _ _ (mS _) ?_)
  |(at_builtin;refine wpList_copy_runI _ rfl _ _ 22 22 rfl _ _ rfl rfl (IK _ Io Ip _ _) ?_))
 go_region_law_o (refine step_copy_runI rfl _ _ 22 22 rfl _ _ (by simp[Act.eval,Act.put]) (by simp[Act.eval,Act.put]) (IL _ Ir z7 3 (G-(i+1)) (cap-i)) ?_)
 go_wp2
 go_ret
 exact⟨rfl,rfl⟩
