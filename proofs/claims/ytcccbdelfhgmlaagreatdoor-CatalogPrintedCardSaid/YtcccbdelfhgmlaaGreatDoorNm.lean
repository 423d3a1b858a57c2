/- Slices of names, in the walk's words: read at the head, cut at the head, grown by one. -/
import Derived.Test.YtcccbdelfhgmlaaGreatDoorYa
import Derived.Test.YtcccbdelfhgmlaaGreatDoorZf
import Derived.Laws.AppendOwn
import Derived.Laws.Slices
import Derived.Shelf.SlIter.Nil
import Derived.Shelf.SortM.Plain
import Derived.Shelf.SortM.SortNone
import Derived.Shelf.SlMaps.DeleteFunc
import Derived.Test.YtcccbdelfhgmlaaGreatDoorChecked
import Derived.Shelf.Slices.Clone
import Derived.Test.YtcccbdelfhgmlaaGreatDoorSxX
set_option linter.unusedSimpArgs false
set_option linter.unusedVariables false
set_option linter.unusedSectionVars false
namespace Go.Tb
open Go.RowKit
structure si(lo:Nat)(w w':World):Prop where
 os:w'.os=w.os
 tape:w'.tape=w.tape
 output:w'.output=w.output
 size:w.heap.size≤w'.heap.size
 below:∀ k,k<lo→k<w.heap.size→w'.heap[k]? =w.heap[k]?
 other:∀ k,k<w.heap.size→(∀ cs t f,w.heap[k]?≠some (.cells cs t f))→w'.heap[k]? =w.heap[k]?
theorem dy.qJ{w w':World}{lo:Nat}{P:Program}{k:TypeId}{R:Value→Option (DataW Unit×List MemPlace)}{b:Nat}{L:List ByteArray}{f:ByteArray→DataW Unit}(h:dy w P k R b L f)(hc:si lo w w'):dy w' P k R b L f:=
 h.block (hc.other b h.lt fun cs t fr e=>by obtain⟨es,c,h⟩:=h.isMap;rw[h]at e;cases e)
theorem fj.qJ{w w':World}{lo:Nat}{P:Program}{k:TypeId}{R:Value→Option (DataW Unit×List MemPlace)}{b r:Nat}{L:List ByteArray}{f:ByteArray→DataW Unit}{left:ByteArray→Prop}{aI:Nat}(h:fj w P k R b r L f left aI)(hc:si lo w w'):fj w' P k R b r L f left aI:=by
 have hb:=h.dy
 obtain⟨x,y,z,u,hr⟩:=h.iter
 have e1:w'.heap[b]? =w.heap[b]? :=hc.other b hb.lt fun cs t fr e=>by obtain⟨es,c,h⟩:=hb.isMap;rw[h]at e;cases e
 have e2:w'.heap[r]? =w.heap[r]? :=hc.other r (ZX.1 hr).1 fun cs t fr e=>by rw[hr]at e;cases e
 obtain⟨h1,h2,D,lf,⟨es,clock,since,seen,c0,g1,g2,g3,g4,g5,g6⟩,h4,h5,h6⟩:=h
 exact⟨h1,h2,D,lf,⟨es,clock,since,seen,c0,e1.trans g1,g2,g3,g4,e2.trans g5,g6⟩,h4,h5,h6⟩
theorem names.mono{w:World}{e:TypeId}{lo yC:Nat}{v:Value}{L:List ByteArray}(h:names w e lo v L)(hl:yC≤lo):names w e yC v L:=by
 obtain⟨a,cap,rfl,h1,h2,h3⟩:=h
 exact⟨a,cap,rfl,h1,h2,fun hc=>by obtain⟨g,off,cur,g1,g2,g3⟩:=h3 hc;exact⟨g,off,cur,g1,Zk hl g2,g3⟩⟩
theorem names.len{w:World}{e:TypeId}{lo:Nat}{v:Value}{L:List ByteArray}(h:names w e lo v L):L.length≤maxLen:=by
 obtain⟨a,cap,rfl,h1,h2,h3⟩:=h;omega
theorem names.keep{w w':World}{e:TypeId}{lo:Nat}{v:Value}{L:List ByteArray}(h:names w e lo v L)(hk:∀ (g:Nat) (cur:Array Value) (t:TypeId) (f:Nat×Nat),w.heap[g]? =some (Obj.cells cur t f)→w'.heap[g]? =w.heap[g]?):names w' e lo v L:=by
 obtain⟨a,cap,rfl,h1,h2,h3⟩:=h
 exact⟨a,cap,rfl,h1,h2,fun hc=>by obtain⟨g,off,cur,g1,g2,g3,g4⟩:=h3 hc;exact⟨g,off,cur,g1,g2,(hk g _ _ _ g3).trans g3,g4⟩⟩
theorem names.alloc{w:World}{e:TypeId}{lo:Nat}{v:Value}{L:List ByteArray}(h:names w e lo v L)(o:Obj):names (w.alloc o) e lo v L:=
 h.keep fun g cur t f hg=>heap_alloc_old w o (ZX.1 hg).1
theorem names.grown{w w':World}{e:TypeId}{lo b:Nat}{v:Value}{L:List ByteArray}(h:names w e lo v L)(hg:w.grownBy w' (some b))(hb:∀ cs t f,w.heap[b]?≠some (.cells cs t f)):names w' e lo v L:=
 h.keep fun g cur t f vu=>hg.block g (ZX.1 vu).1 fun e1=>by cases e1;exact hb _ _ _ vu
theorem names.new{w w':World}{e:TypeId}{lo:Nat}{v:Value}{L:List ByteArray}(h:names w e lo v L)(hg:w.grownBy w' none):names w' e lo v L:=
 h.keep fun g cur t f vu=>hg.block g (ZX.1 vu).1 (by simp)
theorem pn{w:World}{g off:Nat}{cur:Array Value}{t:TypeId}{f:Nat×Nat}(h:w.heap[g]? =some (Obj.cells cur t f)):w.cell? ⟨g,off,none⟩=cur[off]? :=by
 simp[World.cell?,h]
theorem names.head{w:World}{e:TypeId}{lo:Nat}{v:Value}{s:ByteArray}{L:List ByteArray}(h:names w e lo v (s::L)):∃ g off cap,v= .slice (some ⟨g,off,none⟩) (L.length+1) cap∧w.cell? ⟨g,off,none⟩=some (.string s):=by
 obtain⟨a,cap,rfl,h1,h2,h3⟩:=h
 simp only[Z6]at h1
 obtain⟨g,off,cur,rfl,g2,g3,g4,g5⟩:=h3 (by omega)
 refine⟨g,off,cap,by simp,?_⟩
 have:=g5 0 (by simp)
 rw[pn g3];simpa using this
theorem names.cell{w:World}{e:TypeId}{lo:Nat}{v:Value}{L:List ByteArray}(h:names w e lo v L){i:Nat}(hi:i<L.length):∃ g off cap,v= .slice (some ⟨g,off,none⟩) L.length cap∧w.cell? ⟨g,off+i,none⟩=some (.string L[i]):=by
 obtain⟨a,cap,rfl,h1,h2,h3⟩:=h
 obtain⟨g,off,cur,rfl,g2,g3,g4,g5⟩:=h3 (by omega)
 exact⟨g,off,cap,rfl,by rw[pn g3];exact g5 i hi⟩
theorem names.shape{w:World}{e:TypeId}{lo:Nat}{v:Value}{L:List ByteArray}(h:names w e lo v L):∃ a cap,v= .slice a L.length cap:=by
 obtain⟨a,cap,rfl,_⟩:=h;exact⟨a,cap,rfl⟩
section
variable {P:Program}{ops:Array Oper}{rest:List Oper}{o:Oper}{a:Act}{Q:Exit→Act→World→Prop}
theorem ayd(w:World)(hg:o.guard=none)(t:TypeId)(x:Operand)(bP:o.op=Op.slice t x (some (.const (.int .i64 1))) none none)(e:TypeId)(ht:P.underlying t=some (.slice e))(aQ:∀ w,(sizeOf e).run P w= .ok 1 w)(lo:Nat)(v:Value)(s:ByteArray)(L:List ByteArray)
  (hx:a.eval x=v) (h:names w e lo v (s::L)) (hK:∀ v',names w e lo v' L→wpList P ops Q rest (a.put o.dst v') w):wpList P ops Q (o::rest) a w:=by
 refine wpList_plain hg fun K' sY=> ?_
 obtain⟨a0,cap,rfl,h1,h2,h3⟩:=h
 simp only[Z6]at h1
 obtain⟨g,off,cur,rfl,g2,g3,g4,g5⟩:=h3 (by omega)
 have hr:(Instr.sliceAt t (.slice (some ⟨g,off,none⟩) (L.length+1) cap) (some (.int .i64 1)) none none).run P w= .ok (.slice (if cap=1 then some ⟨g,off,none⟩else some ⟨g,off+1,none⟩) L.length (cap-1)) w:=by
  have hl:(1:Int)≤((L.length+1:Nat):Int):=by omega
  simp[Instr.sliceAt,run_underlying ht,Instr.slice,Instr.sliceBounds,Instr.sliceBound,asIntOf,aQ,Addr.add]
  omega
 have mj:a.eval x= .slice (some ⟨g,off,none⟩) (L.length+1) cap:=hx
 have fy:a.eval (.const (.int .i64 1))= .int .i64 1:=rfl
 have hn:names w e lo (.slice (if cap=1 then some ⟨g,off,none⟩else some ⟨g,off+1,none⟩) L.length (cap-1)) L:=by
  refine⟨_,cap-1,rfl,by omega,by omega,fun hc=>⟨g,off+1,cur,by rw[Z9 (by omega)],g2,g3,by omega,fun j hj=> ?_⟩⟩
  have:=g5 (j+1) (by simp;omega)
  rw[XN,Nat.add_comm 1 j];simpa using this
 have hk:=hK _ hn
 clear hK hn h3 g5
 generalize hv:Value.slice (if cap=1 then some ⟨g,off,none⟩else some ⟨g,off+1,none⟩) L.length (cap-1)=v' at hr hk
 unfold Oper.wp
 simp[execOp,bP,mj,fy,hr,Result.andThen]
 exact sY _ _ hk
theorem ah8(w:World)(t ty e:TypeId)(i:TypeInfo)(ht:P.underlying t=some (.slice e))(hi:P.info? e=some i)
  (g off vY KQ:Nat) (cur:Array Value) (hg:w.heap[g]? =some (.cells cur e (0,0)))
  (a:Addr) (m c:Nat) (news:List Value) (hl:news.length=m * i.size) (yc:∀ j u,news[j]? =some u→w.cell? (a.add j)=some u) (h1:∀ u∈news,u.oneCell'=true)
  (Ed:vY+m≤KQ) (Bi:off+vY * i.size+news.length≤cur.size):
  (Builtin.append_ #[t,t] ty #[.slice (some ⟨g,off,none⟩) vY KQ,.slice (some a) m c]).run P w=
   .ok (.slice (some ⟨g,off,none⟩) (vY+m) KQ) (w.setRow g (cur.toList.take (off+vY * i.size)++news++cur.toList.drop (off+vY * i.size+news.length)).toArray):=by
 have hf:=run_firstCells_some (P:=P) w i.size m a m c news hl yc
 have er:=run_storeCells_at P g (off+vY * i.size) e news 0 cur w hg (by simpa using Bi) h1
 simp only[YP]at er
 simp[Builtin.append_,run_underlying ht,sizeOf,typeInfo,hi,Builtin.lenOf,Ed,hf,Addr.add_lit,er]
theorem VI(w:World)(s9:o.guard=none)(v x:Operand)(t:TypeId)(ho:o.op= .call {callee:= .builtin .append,args:= #[v,x],argTypes:= #[t,t]})
  (e:TypeId) (i:TypeInfo) (z:Value) (ht:P.underlying t=some (.slice e)) (hi:P.info? e=some i) (hz:i.zero=some z) (tw:i.size=1) (n0:i.bytes=16) (pU:z.cells.size=1)
  (lo:Nat) (Bv:lo≤w.heap.size) (u:Value) (L:List ByteArray) (hv:a.eval v=u) (h:names w e lo u L) (b:Nat) (s:ByteArray) (hx:a.eval x= .slice (some ⟨b,0,none⟩) 1 1) (hb:w.cell? ⟨b,0,none⟩=some (.string s))
  (hn:L.length+1≤4398046511104)
  (hK:∀ u' w',names w' e lo u' (L++[s])→si lo w w'→wpList P ops Q rest (a.put o.dst u') w'):wpList P ops Q (o::rest) a w:=by
 refine wpList_plain s9 fun K' sY=> ?_
 have yc:∀ j u,[Value.string s][j]? =some u→w.cell? ((⟨b,0,none⟩:Addr).add j)=some u:=fun j u hj=>by
  match j,hj with
  |0,hj=>simp at hj;subst hj;simpa[Addr.add]using hb
 have key:∃ u' w',(Builtin.append_ #[t,t] o.type #[u,.slice (some ⟨b,0,none⟩) 1 1]).run P w= .ok u' w'∧names w' e lo u' (L++[s])∧si lo w w':=by
  obtain⟨a0,cap,rfl,h1,h2,h3⟩:=h
  have grown:∀ old,names (w.drew.alloc (.cells ((L.map Value.string).toArray++[Value.string s].toArray++Builtin.zeroCells z.cells (grownCap w (L.length+1) old e-(L.length+1))) e)) e lo (.slice (some ⟨w.heap.size,0,none⟩) (L.length+1) (grownCap w (L.length+1) old e)) (L++[s]):=fun old=>by
   have Bm:=grownCap_ge w (L.length+1) old e
   have lM:=grownCap_le_maxLen w (L.length+1) old e (by unfold maxLen;omega)
   refine⟨_,_,by simp,by simpa using Bm,lM,fun _=>⟨w.heap.size,0,_,rfl,Bv,heap_alloc_new w.drew _,?_,fun j hj=> ?_⟩⟩
   ·simp only[Array.size_append,ZS,size_zeroCells,pU,Z3,YU];omega
   ·have e1:(L.map Value.string).toArray++[Value.string s].toArray=((L++[s]).map Value.string).toArray:=by simp
    rw[e1,Zc,XY (by simpa using hj),Ym,YA,Z4 hj];rfl
  have cw:∀ old,si lo w (w.drew.alloc (.cells ((L.map Value.string).toArray++[Value.string s].toArray++Builtin.zeroCells z.cells (grownCap w (L.length+1) old e-(L.length+1))) e)):=fun old=>
   ⟨rfl,rfl,rfl,by simp,fun k _ hk=>heap_alloc_old w.drew _ hk,fun k hk _=>heap_alloc_old w.drew _ hk⟩
  by_cases hc:cap=0
  ·subst hc
   have hL:L=[]:=ZO (by omega)
   subst hL
   cases a0 with
   |none=>
    have hr:=run_append_nil (P:=P) w t o.type e i z ht hi hz ⟨b,0,none⟩ 1 1 [.string s] (by simp[tw]) yc (by omega) (by omega) (by rw[n0];omega)
    have:=grown 0
    have:=cw 0
    simp only[ZW,YO,Zc,Za,Array.empty_append]at *
    exact⟨_,_,hr,by assumption,by assumption⟩
   |some a1=>
    have hr:=run_append_grow (P:=P) w t o.type e i z ht hi hz a1 0 0 [] (by simp) (by simp) ⟨b,0,none⟩ 1 1 [.string s] (by simp[tw]) yc (by omega) (by omega) (growslice_fits (by omega) (by rw[n0];omega))
    have:=grown 0
    have:=cw 0
    simp only[ZW,YO,Zc,Za]at *
    exact⟨_,_,hr,by assumption,by assumption⟩
  ·obtain⟨g,off,cur,rfl,g2,g3,g4,g5⟩:=h3 (by omega)
   by_cases Ed:L.length+1≤cap
   ·have hr:=ah8 (P:=P) w t o.type e i ht hi g off L.length cap cur g3 ⟨b,0,none⟩ 1 1 [.string s] (by simp[tw]) yc (by intro y hy;rw[ZI]at hy;subst hy;rfl) Ed (by rw[tw];simp;omega)
    refine⟨_,_,hr,⟨_,cap,by simp,by simpa using Ed,h2,fun _=>⟨g,off,_,rfl,g2,setRow_heap w g cur _ e _ g3,?_,fun j hj=> ?_⟩⟩,?_⟩
    ·simp only[ZS,Z5,ZK,Zj,Zb,tw];simp;omega
    ·simp only[tw,Yi,Ym]
     by_cases lS:j<L.length
     ·rw[Zz,Y9 (by simp;omega),List.getElem?_take,Z8 (by omega)]
      rw[YH lS]
      simpa using g5 j lS
     ·have:j=L.length:=by simp at hj;omega
      subst this
      rw[Zz,Yz (by simp;omega)]
      simp
      rw[Nat.min_eq_left (by omega)];simp
    ·refine⟨rfl,rfl,rfl,by simp[World.setRow],fun k hk _=>setRow_other w g k _ (by omega),fun k hk hn=>setRow_other w g k _ (fun e1=> ?_)⟩
     subst e1;exact hn _ _ _ g3
   ·have holds:∀ j u,(L.map Value.string)[j]? =some u→w.cell? ((⟨g,off,none⟩:Addr).add j)=some u:=fun j u hj=>by
     rw[YA,ZQ]at hj
     obtain⟨y,hy,rfl⟩:=hj
     obtain⟨hj,rfl⟩:=ZP.1 hy
     rw[Addr.add_lit,pn g3];exact g5 j hj
    have hr:=run_append_grow (P:=P) w t o.type e i z ht hi hz ⟨g,off,none⟩ L.length cap (L.map .string) (by simp[tw]) holds ⟨b,0,none⟩ 1 1 [.string s] (by simp[tw]) yc (by omega) (by omega) (growslice_fits (by omega) (by rw[n0];omega))
    exact⟨_,_,hr,grown cap,cw cap⟩
 obtain⟨u',w',hr,h2,h3⟩:=key
 unfold Oper.wp execOp
 simp only[ho,resolve,invoke,builtin,Sem.run_bind,Sem.run_pure,Result.andThen_ok,List.map_toArray,Zu,YO,hv,hx,hr]
 exact sY _ _ (hK u' w' h2 h3)
end
end Go.Tb
namespace Go.Proofs
open Go.Shelf
def Tryz.sort49_ren:Go.Shelf.Ren:=⟨fun|6=>49|8=>80|9=>79|19=>120|20=>121|21=>111|22=>112|23=>113|24=>114|25=>115|26=>116|27=>117|28=>118|29=>119|36=>154|31=>155|32=>156|37=>157|38=>158|39=>159|41=>192|n=>n,fun|27=>43|29=>9|3=>3|32=>138|26=>43|0=>0|44=>176|46=>178|4=>4|36=>168|35=>167|41=>173|5=>5|9=>9|53=>210|57=>214|63=>233|64=>234|n=>n,fun|n=>n⟩
theorem Tryz.sort49:Go.Proofs.SlLaysM.n6 Tryz.prog Tryz.sort49_ren:={
 mixed:=by kernel_rfl
 f6:=⟨Tryz.f49.name,by decide,Tryz.func49.trans (Zy some (by kernel_rfl))⟩
 f8:=Tryz.func80.trans (Zy some (by kernel_rfl))
 f9:=⟨Tryz.f79.name,by decide,Tryz.func79.trans (Zy some (by kernel_rfl))⟩
 f19:=Tryz.func120.trans (Zy some (by kernel_rfl))
 f20:=Tryz.func121.trans (Zy some (by kernel_rfl))
 f21:=⟨Tryz.f111.name,by decide,Tryz.func111.trans (Zy some (by kernel_rfl))⟩
 f22:=⟨Tryz.f112.name,by decide,Tryz.func112.trans (Zy some (by kernel_rfl))⟩
 f23:=⟨Tryz.f113.name,by decide,Tryz.func113.trans (Zy some (by kernel_rfl))⟩
 f24:=⟨Tryz.f114.name,by decide,Tryz.func114.trans (Zy some (by kernel_rfl))⟩
 f25:=⟨Tryz.f115.name,by decide,Tryz.func115.trans (Zy some (by kernel_rfl))⟩
 f26:=⟨Tryz.f116.name,by decide,Tryz.func116.trans (Zy some (by kernel_rfl))⟩
 f27:=⟨Tryz.f117.name,by decide,Tryz.func117.trans (Zy some (by kernel_rfl))⟩
 f28:=⟨Tryz.f118.name,by decide,Tryz.func118.trans (Zy some (by kernel_rfl))⟩
 f29:=⟨Tryz.f119.name,by decide,Tryz.func119.trans (Zy some (by kernel_rfl))⟩
 f31:=Tryz.func155.trans (Zy some (by kernel_rfl))
 f32:=Tryz.func156.trans (Zy some (by kernel_rfl))
 f36:=⟨Tryz.f154.name,by decide,Tryz.func154.trans (Zy some (by kernel_rfl))⟩
 f37:=⟨Tryz.f157.name,by decide,Tryz.func157.trans (Zy some (by kernel_rfl))⟩
 f38:=⟨Tryz.f158.name,by decide,Tryz.func158.trans (Zy some (by kernel_rfl))⟩
 f39:=⟨Tryz.f159.name,by decide,Tryz.func159.trans (Zy some (by kernel_rfl))⟩
 f41:=⟨Tryz.f192.name,by decide,Tryz.func192.trans (Zy some (by kernel_rfl))⟩
 t0:=Tryz.underlying0
 a0:=Tryz.isAgg0
 z0:=Tryz.sizeOf0
 v0:=Tryz.zeroValue0
 t3:=Tryz.underlying3
 a3:=Tryz.isAgg3
 z3:=Tryz.sizeOf3
 v3:=Tryz.zeroValue3
 t4:=Tryz.underlying4
 a4:=Tryz.isAgg4
 z4:=Tryz.sizeOf4
 v4:=Tryz.zeroValue4
 t5:=Tryz.underlying5
 a5:=Tryz.isAgg5
 z5:=Tryz.sizeOf5
 v5:=Tryz.zeroValue5
 t9:=Tryz.underlying9
 a9:=Tryz.isAgg9
 z9:=Tryz.sizeOf9
 v9:=Tryz.zeroValue9
 t26:=Tryz.underlying43
 a26:=Tryz.isAgg43
 z26:=Tryz.sizeOf43
 v26:=Tryz.zeroValue43
 t27:=Tryz.underlying43
 a27:=Tryz.isAgg43
 z27:=Tryz.sizeOf43
 v27:=Tryz.zeroValue43
 t29:=Tryz.underlying9
 a29:=Tryz.isAgg9
 z29:=Tryz.sizeOf9
 v29:=Tryz.zeroValue9
 t32:=Tryz.underlying138
 a32:=Tryz.isAgg138
 z32:=Tryz.sizeOf138
 v32:=Tryz.zeroValue138
 t35:=Tryz.underlying167
 a35:=Tryz.isAgg167
 z35:=Tryz.sizeOf167
 v35:=Tryz.zeroValue167
 t36:=Tryz.underlying168
 a36:=Tryz.isAgg168
 z36:=Tryz.sizeOf168
 v36:=Tryz.zeroValue168
 t41:=Tryz.underlying173
 a41:=Tryz.isAgg173
 z41:=Tryz.sizeOf173
 v41:=Tryz.zeroValue173
 t44:=Tryz.underlying176
 a44:=Tryz.isAgg176
 z44:=Tryz.sizeOf176
 v44:=Tryz.zeroValue176
 t46:=Tryz.underlying178
 a46:=Tryz.isAgg178
 z46:=Tryz.sizeOf178
 v46:=Tryz.zeroValue178
 t53:=Tryz.underlying210
 a53:=Tryz.isAgg210
 z53:=Tryz.sizeOf210
 v53:=Tryz.zeroValue210
 t57:=Tryz.underlying214
 a57:=Tryz.isAgg214
 z57:=Tryz.sizeOf214
 v57:=Tryz.zeroValue214
 t63:=Tryz.underlying233
 a63:=Tryz.isAgg233
 z63:=Tryz.sizeOf233
 v63:=Tryz.zeroValue233
 t64:=Tryz.underlying234
 a64:=Tryz.isAgg234
 z64:=Tryz.sizeOf234
 v64:=Tryz.zeroValue234}
def Tryz.sorted22_ren:Go.Shelf.Ren:=⟨fun|6=>22|8=>48|9=>49|11=>78|13=>80|12=>79|23=>120|24=>121|14=>111|15=>112|16=>113|17=>114|18=>115|19=>116|20=>117|21=>118|22=>119|25=>154|26=>155|27=>156|28=>157|29=>158|30=>159|31=>192|n=>n,fun|26=>9|28=>73|24=>43|0=>0|3=>3|37=>138|48=>176|50=>178|4=>4|40=>168|39=>167|45=>173|5=>5|9=>9|51=>210|55=>214|57=>233|58=>234|33=>102|n=>n,fun|n=>n⟩
theorem Tryz.sorted22:Go.Proofs.SlLaysZ.n6 Tryz.prog Tryz.sorted22_ren:={
 mixed:=by kernel_rfl
 f6:=⟨Tryz.f22.name,by decide,Tryz.func22.trans (Zy some (by kernel_rfl))⟩
 f8:=⟨Tryz.f48.name,by decide,Tryz.func48.trans (Zy some (by kernel_rfl))⟩
 f11:=⟨Tryz.f78.name,by decide,Tryz.func78.trans (Zy some (by kernel_rfl))⟩
 t0:=Tryz.underlying0
 a0:=Tryz.isAgg0
 z0:=Tryz.sizeOf0
 v0:=Tryz.zeroValue0
 t24:=Tryz.underlying43
 a24:=Tryz.isAgg43
 z24:=Tryz.sizeOf43
 v24:=Tryz.zeroValue43
 t26:=Tryz.underlying9
 a26:=Tryz.isAgg9
 z26:=Tryz.sizeOf9
 v26:=Tryz.zeroValue9
 t28:=Tryz.underlying73
 a28:=Tryz.isAgg73
 z28:=Tryz.sizeOf73
 v28:=Tryz.zeroValue73
 i26:=by kernel_rfl}
def Tryz.keys23_ren:Go.Shelf.Ren:=⟨fun|7=>23|10=>50|n=>n,fun|23=>69|26=>9|3=>4|28=>73|0=>0|27=>72|33=>102|4=>4|n=>n,fun|n=>n⟩
theorem Tryz.keys23:Go.Proofs.SlLaysZ.n7 Tryz.prog Tryz.keys23_ren:={
 mixed:=by kernel_rfl
 f7:=⟨Tryz.f23.name,by decide,Tryz.func23.trans (Zy some (by kernel_rfl))⟩
 f10:=⟨Tryz.f50.name,by decide,Tryz.func50.trans (Zy some (by kernel_rfl))⟩
 t0:=Tryz.underlying0
 a0:=Tryz.isAgg0
 z0:=Tryz.sizeOf0
 v0:=Tryz.zeroValue0
 t4:=Tryz.underlying4
 a4:=Tryz.isAgg4
 z4:=Tryz.sizeOf4
 v4:=Tryz.zeroValue4
 t23:=Tryz.underlying69
 a23:=Tryz.isAgg69
 z23:=Tryz.sizeOf69
 v23:=Tryz.zeroValue69
 t26:=Tryz.underlying9
 a26:=Tryz.isAgg9
 z26:=Tryz.sizeOf9
 v26:=Tryz.zeroValue9
 t27:=Tryz.underlying72
 a27:=Tryz.isAgg72
 z27:=Tryz.sizeOf72
 v27:=Tryz.zeroValue72
 t28:=Tryz.underlying73
 a28:=Tryz.isAgg73
 z28:=Tryz.sizeOf73
 v28:=Tryz.zeroValue73
 t33:=Tryz.underlying102
 a33:=Tryz.isAgg102
 z33:=Tryz.sizeOf102
 v33:=Tryz.zeroValue102}
def Tryz.keys37_ren:Go.Shelf.Ren:=⟨fun|7=>37|10=>66|n=>n,fun|23=>81|26=>9|3=>69|28=>73|0=>0|27=>72|33=>102|4=>4|n=>n,fun|n=>n⟩
theorem Tryz.keys37:Go.Proofs.SlLaysZ.n7 Tryz.prog Tryz.keys37_ren:={
 mixed:=by kernel_rfl
 f7:=⟨Tryz.f37.name,by decide,Tryz.func37.trans (Zy some (by kernel_rfl))⟩
 f10:=⟨Tryz.f66.name,by decide,Tryz.func66.trans (Zy some (by kernel_rfl))⟩
 t0:=Tryz.underlying0
 a0:=Tryz.isAgg0
 z0:=Tryz.sizeOf0
 v0:=Tryz.zeroValue0
 t4:=Tryz.underlying4
 a4:=Tryz.isAgg4
 z4:=Tryz.sizeOf4
 v4:=Tryz.zeroValue4
 t23:=Tryz.underlying81
 a23:=Tryz.isAgg81
 z23:=Tryz.sizeOf81
 v23:=Tryz.zeroValue81
 t26:=Tryz.underlying9
 a26:=Tryz.isAgg9
 z26:=Tryz.sizeOf9
 v26:=Tryz.zeroValue9
 t27:=Tryz.underlying72
 a27:=Tryz.isAgg72
 z27:=Tryz.sizeOf72
 v27:=Tryz.zeroValue72
 t28:=Tryz.underlying73
 a28:=Tryz.isAgg73
 z28:=Tryz.sizeOf73
 v28:=Tryz.zeroValue73
 t33:=Tryz.underlying102
 a33:=Tryz.isAgg102
 z33:=Tryz.sizeOf102
 v33:=Tryz.zeroValue102}
def Tryz.del64_ren:Go.Shelf.Ren:=⟨fun|5=>64|n=>n,fun|23=>69|26=>9|24=>4|27=>115|0=>0|4=>4|n=>n,fun|n=>n⟩
theorem Tryz.del64:Go.Proofs.SlLaysDf.n5 Tryz.prog Tryz.del64_ren:={
 mixed:=by kernel_rfl
 f5:=⟨Tryz.f64.name,by decide,Tryz.func64.trans (Zy some (by kernel_rfl))⟩
 t0:=Tryz.underlying0
 a0:=Tryz.isAgg0
 z0:=Tryz.sizeOf0
 v0:=Tryz.zeroValue0
 t4:=Tryz.underlying4
 a4:=Tryz.isAgg4
 z4:=Tryz.sizeOf4
 v4:=Tryz.zeroValue4
 t23:=Tryz.underlying69
 a23:=Tryz.isAgg69
 z23:=Tryz.sizeOf69
 v23:=Tryz.zeroValue69
 a24:=Tryz.isAgg4
 z24:=Tryz.sizeOf4
 a26:=Tryz.isAgg9
 z26:=Tryz.sizeOf9
 t27:=Tryz.underlying115
 a27:=Tryz.isAgg115
 z27:=Tryz.sizeOf115
 v27:=Tryz.zeroValue115}
end Go.Proofs
namespace Go.Proofs
open Go.RowKit Go.Maps Go.Sort Go.Shelf
theorem Tryz.sorts22(m:Nat):AnyZ.SortsIn Tryz.prog Tryz.sorted22_ren Fence.wide m:=
 ⟨fun jF off cap ss W hH IC aQ=>callsIn_wide.2 (AnyM.slices_Sort_string Tryz.sort49 jF off cap ss W hH IC aQ),
  fun p cap W=>callsIn_wide.2 (AnyM.slices_Sort_string_none Tryz.sort49 p cap W)⟩
theorem Tryz.maps_Keys_23(mb:Option Nat)(W:World):CallsIn Fence.wide 5 Tryz.prog 23 #[.map mb] W fun e w'=>e= .returned (.func (.func 50) #[] #[.pointer (some ⟨W.heap.size,0,none⟩)])∧w'=W.alloc (.cells #[.map mb] 69):=
 AnyZ.keys_in Tryz.keys23 Fence.wide 5 trivial rfl mb W
set_option maxHeartbeats 1000000 in
theorem Tryz.slices_Sorted_keys_22_23{H:Type}(b nn:Nat)(D0:DataW H)(R:Value→Option (DataW H×List MemPlace))(w:World)(gh:w.ownsMap Tryz.prog 9 R b nn D0)(kV:Maps.size D0≤maxLen)(IE:Maps.size D0 * 16≤140737488355328):
  CallsIn Fence.wide 5 Tryz.prog 22 #[.func (.func 50) #[] #[.pointer (some ⟨w.heap.size,0,none⟩)]] (w.alloc (.cells #[.map (some b)] 69)) fun e w'=>∃ (v:Value) (ss:List (List UInt8)),e= .returned v∧ss.Perm (strKeys D0)∧
   w'.ownsRow (w.alloc (.cells #[.map (some b)] 69)).heap.size 9 1 v ss.length ((ss.mergeSort (fun x y=>decide (x≤y))).map encStr)∧(v= .slice none 0 0↔ss=[])∧Below (w.alloc (.cells #[.map (some b)] 69)).heap.size (w.alloc (.cells #[.map (some b)] 69)) w':=by
 have hY:=gh.lt
 have Jv:SeqGives Fence.wide 2 Tryz.prog 50 #[.pointer (some ⟨w.heap.size,0,none⟩)] encStr (fun ss=>ss.Perm (strKeys D0)) (Maps.size D0) (w.alloc (.cells #[.map (some b)] 69)):=
  AnyZ.keys_gives (ρ:=Tryz.keys23_ren) {Tryz.keys23 with} Fence.wide _ trivial rfl (by omega) w.heap.size b nn D0 _ (by simp) (by simp) (by
   obtain⟨es,clock,hb,Ft,hs,hD⟩:=gh
   exact⟨es,clock,(Below.heap_alloc _ _ b hY).trans hb,Ft,hs,hD⟩)
 exact AnyZ.sorted_in Tryz.sorted22 Fence.wide 5 trivial trivial trivial trivial rfl (by omega) (Tryz.sorts22 _) (enters_of Tryz.func49 (by kernel_rfl) rfl) 50 #[.pointer (some ⟨w.heap.size,0,none⟩)] trivial (enters_of Tryz.func50 (by kernel_rfl) rfl) _ _ kV IE _ Jv
theorem Tryz.maps_Keys_37(mb:Option Nat)(W:World):CallsIn Fence.wide 5 Tryz.prog 37 #[.map mb] W fun e w'=>e= .returned (.func (.func 66) #[] #[.pointer (some ⟨W.heap.size,0,none⟩)])∧w'=W.alloc (.cells #[.map mb] 81):=
 AnyZ.keys_in Tryz.keys37 Fence.wide 5 trivial rfl mb W
set_option maxHeartbeats 1000000 in
theorem Tryz.slices_Sorted_keys_22_37{H:Type}(b nn:Nat)(D0:DataW H)(R:Value→Option (DataW H×List MemPlace))(w:World)(gh:w.ownsMap Tryz.prog 9 R b nn D0)(kV:Maps.size D0≤maxLen)(IE:Maps.size D0 * 16≤140737488355328):
  CallsIn Fence.wide 5 Tryz.prog 22 #[.func (.func 66) #[] #[.pointer (some ⟨w.heap.size,0,none⟩)]] (w.alloc (.cells #[.map (some b)] 81)) fun e w'=>∃ (v:Value) (ss:List (List UInt8)),e= .returned v∧ss.Perm (strKeys D0)∧
   w'.ownsRow (w.alloc (.cells #[.map (some b)] 81)).heap.size 9 1 v ss.length ((ss.mergeSort (fun x y=>decide (x≤y))).map encStr)∧(v= .slice none 0 0↔ss=[])∧Below (w.alloc (.cells #[.map (some b)] 81)).heap.size (w.alloc (.cells #[.map (some b)] 81)) w':=by
 have hY:=gh.lt
 have Jv:SeqGives Fence.wide 2 Tryz.prog 66 #[.pointer (some ⟨w.heap.size,0,none⟩)] encStr (fun ss=>ss.Perm (strKeys D0)) (Maps.size D0) (w.alloc (.cells #[.map (some b)] 81)):=
  AnyZ.keys_gives (ρ:=Tryz.keys37_ren) {Tryz.keys37 with} Fence.wide _ trivial rfl (by omega) w.heap.size b nn D0 _ (by simp) (by simp) (by
   obtain⟨es,clock,hb,Ft,hs,hD⟩:=gh
   exact⟨es,clock,(Below.heap_alloc _ _ b hY).trans hb,Ft,hs,hD⟩)
 exact AnyZ.sorted_in Tryz.sorted22 Fence.wide 5 trivial trivial trivial trivial rfl (by omega) (Tryz.sorts22 _) (enters_of Tryz.func49 (by kernel_rfl) rfl) 66 #[.pointer (some ⟨w.heap.size,0,none⟩)] trivial (enters_of Tryz.func66 (by kernel_rfl) rfl) _ _ kV IE _ Jv
end Go.Proofs
namespace Go.Proofs
open Go.Shelf
def Tryz.laysNm216_ren:Go.Shelf.Ren:=⟨fun|16=>67|n=>n,fun|24=>43|9=>9|4=>4|n=>n,fun|n=>n⟩
theorem Tryz.laysNm216:Go.Proofs.Lays2.n16 Tryz.prog Tryz.laysNm216_ren:={
 mixed:=by kernel_rfl
 f16:=Tryz.func67.trans (Zy some (by kernel_rfl))
 t4:=Tryz.underlying4
 a4:=Tryz.isAgg4
 z4:=Tryz.sizeOf4
 v4:=Tryz.zeroValue4
 t9:=Tryz.underlying9
 a9:=Tryz.isAgg9
 z9:=Tryz.sizeOf9
 v9:=Tryz.zeroValue9
 t24:=Tryz.underlying43
 a24:=Tryz.isAgg43
 z24:=Tryz.sizeOf43
 v24:=Tryz.zeroValue43
 i9:=by kernel_rfl}
open Go.RowKit Go.Lib in
theorem Tryz.slices_Clone_string(b off n c:Nat)(zs:List ByteArray)(w:World)(hz:n≤zs.length)(pE:n * 16≤140737488355328)(hc:∀ j,j<zs.length→w.cell? ⟨b,off+j,none⟩=some (.string (zs.getD j ByteArray.empty))):
  Calls Tryz.prog 67 #[.slice (some ⟨b,off,none⟩) n c] w fun e w'=>∃ v',e= .returned v'∧w'.ownsRow w.heap.size 9 1 v' n ((zs.take n).map (Value.string))∧v'≠.slice none 0 0∧Below w.heap.size w w':=Any.slices_Clone_string Tryz.laysNm216 b off n c zs w hz pE hc
end Go.Proofs
