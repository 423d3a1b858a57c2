/- Slices of names, in the walk's words: read at the head, cut at the head, grown by one. -/
import Derived.Test.YtomhopcnkicknaaGreatDoorSet
import Derived.Laws.AppendOwn
import Derived.Laws.Slices
import Derived.Shelf.SlIter.Nil
import Derived.Shelf.SortM.Plain
import Derived.Shelf.SortM.SortNone
import Derived.Shelf.SlMaps.DeleteFunc
import Derived.Test.YtomhopcnkicknaaGreatDoorChecked
import Derived.Shelf.Slices.Clone
import Derived.Test.YtomhopcnkicknaaGreatDoorSxX
set_option linter.unusedSimpArgs false
set_option linter.unusedVariables false
set_option linter.unusedSectionVars false
namespace Go.Tb
open Go.RowKit
def names(w:World)(e:TypeId)(lo:Nat)(v:Value)(L:List ByteArray):Prop:=
 ∃ a cap,v= .slice a L.length cap∧L.length≤cap∧cap≤maxLen∧
  (0<cap→∃ g off cur,a=some ⟨g,off,none⟩∧lo≤g∧w.heap[g]? =some (.cells cur e (0,0))∧off+cap≤cur.size∧∀ j (hj:j<L.length),cur[off+j]? =some (.string L[j]))
structure qI(lo:Nat)(w w':World):Prop where
 os:w'.os=w.os
 tape:w'.tape=w.tape
 output:w'.output=w.output
 size:w.heap.size≤w'.heap.size
 below:∀ k,k<lo→k<w.heap.size→w'.heap[k]? =w.heap[k]?
 other:∀ k,k<w.heap.size→(∀ cs t f,w.heap[k]?≠some (.cells cs t f))→w'.heap[k]? =w.heap[k]?
theorem dh.pE{w w':World}{lo:Nat}{P:Program}{k:TypeId}{R:Value→Option (DataW Unit×List MemPlace)}{b:Nat}{L:List ByteArray}{f:ByteArray→DataW Unit}(h:dh w P k R b L f)(hc:qI lo w w'):dh w' P k R b L f:=
 h.block (hc.other b h.lt fun cs t fr e=>by obtain⟨es,c,h⟩:=h.isMap;rw[h]at e;cases e)
theorem eQ.pE{w w':World}{lo:Nat}{P:Program}{k:TypeId}{R:Value→Option (DataW Unit×List MemPlace)}{b r:Nat}{L:List ByteArray}{f:ByteArray→DataW Unit}{left:ByteArray→Prop}{aY:Nat}(h:eQ w P k R b r L f left aY)(hc:qI lo w w'):eQ w' P k R b r L f left aY:=by
 have hb:=h.dh
 obtain⟨x,y,z,u,hr⟩:=h.iter
 have e1:w'.heap[b]? =w.heap[b]? :=hc.other b hb.lt fun cs t fr e=>by obtain⟨es,c,h⟩:=hb.isMap;rw[h]at e;cases e
 have e2:w'.heap[r]? =w.heap[r]? :=hc.other r (Z0.1 hr).1 fun cs t fr e=>by rw[hr]at e;cases e
 obtain⟨h1,h2,D,lf,⟨es,clock,since,seen,c0,g1,g2,g3,g4,g5,g6⟩,h4,h5,h6⟩:=h
 exact⟨h1,h2,D,lf,⟨es,clock,since,seen,c0,e1.trans g1,g2,g3,g4,e2.trans g5,g6⟩,h4,h5,h6⟩
theorem names.Ph{w:World}{e:TypeId}{base:Nat}{v:Value}{L:List ByteArray}(h:w.ownsRow base e 1 v L.length (L.map .string)):names w e base v L:=by
 obtain⟨h1,h2⟩:=h
 rcases h2 with⟨rfl,hn⟩|⟨g,cap,cur,rfl,hb,hg,hc,hm,hs,ht⟩
 ·exact⟨none,0,by rw[hn],by omega,by simp,fun h=>absurd h (by omega)⟩
 ·refine⟨_,cap,rfl,hc,hm,fun _=>⟨g,0,cur,rfl,hb,hg,by omega,fun j hj=> ?_⟩⟩
  have e1:=Zy (fun l=>l[j]?) ht
  simp only[YO,List.getElem?_take,Z3 hj,YK,ZX hj,Zc]at e1
  rw[Zl];simpa using e1
theorem names.mono{w:World}{e:TypeId}{lo OI:Nat}{v:Value}{L:List ByteArray}(h:names w e lo v L)(hl:OI≤lo):names w e OI v L:=by
 obtain⟨a,cap,rfl,h1,h2,h3⟩:=h
 exact⟨a,cap,rfl,h1,h2,fun hc=>by obtain⟨g,off,cur,g1,g2,g3⟩:=h3 hc;exact⟨g,off,cur,g1,ZJ hl g2,g3⟩⟩
theorem names.len{w:World}{e:TypeId}{lo:Nat}{v:Value}{L:List ByteArray}(h:names w e lo v L):L.length≤maxLen:=by
 obtain⟨a,cap,rfl,h1,h2,h3⟩:=h;omega
theorem names.bY{w w':World}{e:TypeId}{lo:Nat}{v:Value}{L:List ByteArray}(h:names w e lo v L)(hk:∀ (g:Nat) (cur:Array Value) (t:TypeId) (f:Nat×Nat),w.heap[g]? =some (Obj.cells cur t f)→w'.heap[g]? =w.heap[g]?):names w' e lo v L:=by
 obtain⟨a,cap,rfl,h1,h2,h3⟩:=h
 exact⟨a,cap,rfl,h1,h2,fun hc=>by obtain⟨g,off,cur,g1,g2,g3,g4⟩:=h3 hc;exact⟨g,off,cur,g1,g2,(hk g _ _ _ g3).trans g3,g4⟩⟩
theorem names.alloc{w:World}{e:TypeId}{lo:Nat}{v:Value}{L:List ByteArray}(h:names w e lo v L)(o:Obj):names (w.alloc o) e lo v L:=
 h.bY fun g cur t f hg=>heap_alloc_old w o (Z0.1 hg).1
theorem names.grown{w w':World}{e:TypeId}{lo b:Nat}{v:Value}{L:List ByteArray}(h:names w e lo v L)(hg:w.grownBy w' (some b))(hb:∀ cs t f,w.heap[b]?≠some (.cells cs t f)):names w' e lo v L:=
 h.bY fun g cur t f tz=>hg.block g (Z0.1 tz).1 fun e1=>by cases e1;exact hb _ _ _ tz
theorem names.new{w w':World}{e:TypeId}{lo:Nat}{v:Value}{L:List ByteArray}(h:names w e lo v L)(hg:w.grownBy w' none):names w' e lo v L:=
 h.bY fun g cur t f tz=>hg.block g (Z0.1 tz).1 (by simp)
theorem lh{w:World}{g off:Nat}{cur:Array Value}{t:TypeId}{f:Nat×Nat}(h:w.heap[g]? =some (Obj.cells cur t f)):w.cell? ⟨g,off,none⟩=cur[off]? :=by
 simp[World.cell?,h]
theorem names.head{w:World}{e:TypeId}{lo:Nat}{v:Value}{s:ByteArray}{L:List ByteArray}(h:names w e lo v (s::L)):∃ g off cap,v= .slice (some ⟨g,off,none⟩) (L.length+1) cap∧w.cell? ⟨g,off,none⟩=some (.string s):=by
 obtain⟨a,cap,rfl,h1,h2,h3⟩:=h
 simp only[Z8]at h1
 obtain⟨g,off,cur,rfl,g2,g3,g4,g5⟩:=h3 (by omega)
 refine⟨g,off,cap,by simp,?_⟩
 have:=g5 0 (by simp)
 rw[lh g3];simpa using this
theorem names.cell{w:World}{e:TypeId}{lo:Nat}{v:Value}{L:List ByteArray}(h:names w e lo v L){i:Nat}(hi:i<L.length):∃ g off cap,v= .slice (some ⟨g,off,none⟩) L.length cap∧w.cell? ⟨g,off+i,none⟩=some (.string L[i]):=by
 obtain⟨a,cap,rfl,h1,h2,h3⟩:=h
 obtain⟨g,off,cur,rfl,g2,g3,g4,g5⟩:=h3 (by omega)
 exact⟨g,off,cap,rfl,by rw[lh g3];exact g5 i hi⟩
theorem names.shape{w:World}{e:TypeId}{lo:Nat}{v:Value}{L:List ByteArray}(h:names w e lo v L):∃ a cap,v= .slice a L.length cap:=by
 obtain⟨a,cap,rfl,_⟩:=h;exact⟨a,cap,rfl⟩
section
variable {P:Program}{ops:Array Oper}{rest:List Oper}{o:Oper}{a:Act}{Q:Exit→Act→World→Prop}
theorem aM9(w:World)(hg:o.guard=none)(t:TypeId)(x:Operand)(cO:o.op=Op.slice t x (some (.const (.int .i64 1))) none none)(e:TypeId)(ht:P.underlying t=some (.slice e))(bC:∀ w,(sizeOf e).run P w= .ok 1 w)(lo:Nat)(v:Value)(s:ByteArray)(L:List ByteArray)
  (hx:a.eval x=v) (h:names w e lo v (s::L)) (hK:∀ v',names w e lo v' L→wpList P ops Q rest (a.put o.dst v') w):wpList P ops Q (o::rest) a w:=by
 refine wpList_plain hg fun K' rj=> ?_
 obtain⟨a0,cap,rfl,h1,h2,h3⟩:=h
 simp only[Z8]at h1
 obtain⟨g,off,cur,rfl,g2,g3,g4,g5⟩:=h3 (by omega)
 have hr:(Instr.sliceAt t (.slice (some ⟨g,off,none⟩) (L.length+1) cap) (some (.int .i64 1)) none none).run P w= .ok (.slice (if cap=1 then some ⟨g,off,none⟩else some ⟨g,off+1,none⟩) L.length (cap-1)) w:=by
  have hl:(1:Int)≤((L.length+1:Nat):Int):=by omega
  simp[Instr.sliceAt,run_underlying ht,Instr.slice,Instr.sliceBounds,Instr.sliceBound,asIntOf,bC,Addr.add]
  omega
 have oN:a.eval x= .slice (some ⟨g,off,none⟩) (L.length+1) cap:=hx
 have cW:a.eval (.const (.int .i64 1))= .int .i64 1:=rfl
 have hn:names w e lo (.slice (if cap=1 then some ⟨g,off,none⟩else some ⟨g,off+1,none⟩) L.length (cap-1)) L:=by
  refine⟨_,cap-1,rfl,by omega,by omega,fun hc=>⟨g,off+1,cur,by rw[Z6 (by omega)],g2,g3,by omega,fun j hj=> ?_⟩⟩
  have:=g5 (j+1) (by simp;omega)
  rw[XJ,Nat.add_comm 1 j];simpa using this
 have hk:=hK _ hn
 clear hK hn h3 g5
 generalize hv:Value.slice (if cap=1 then some ⟨g,off,none⟩else some ⟨g,off+1,none⟩) L.length (cap-1)=v' at hr hk
 unfold Oper.wp
 simp[execOp,cO,oN,cW,hr,Result.andThen]
 exact rj _ _ hk
theorem ahU(w:World)(t ty e:TypeId)(i:TypeInfo)(ht:P.underlying t=some (.slice e))(hi:P.info? e=some i)
  (g off ug Iw:Nat) (cur:Array Value) (hg:w.heap[g]? =some (.cells cur e (0,0)))
  (a:Addr) (m c:Nat) (news:List Value) (hl:news.length=m * i.size) (vR:∀ j u,news[j]? =some u→w.cell? (a.add j)=some u) (h1:∀ u∈news,u.oneCell'=true)
  (Cm:ug+m≤Iw) (yC:off+ug * i.size+news.length≤cur.size):
  (Builtin.append_ #[t,t] ty #[.slice (some ⟨g,off,none⟩) ug Iw,.slice (some a) m c]).run P w=
   .ok (.slice (some ⟨g,off,none⟩) (ug+m) Iw) (w.setRow g (cur.toList.take (off+ug * i.size)++news++cur.toList.drop (off+ug * i.size+news.length)).toArray):=by
 have hf:=run_firstCells_some (P:=P) w i.size m a m c news hl vR
 have eX:=run_storeCells_at P g (off+ug * i.size) e news 0 cur w hg (by simpa using yC) h1
 simp only[YN]at eX
 simp[Builtin.append_,run_underlying ht,sizeOf,typeInfo,hi,Builtin.lenOf,Cm,hf,Addr.add_lit,eX]
theorem R3(w:World)(tv:o.guard=none)(v x:Operand)(t:TypeId)(ho:o.op= .call {callee:= .builtin .append,args:= #[v,x],argTypes:= #[t,t]})
  (e:TypeId) (i:TypeInfo) (z:Value) (ht:P.underlying t=some (.slice e)) (hi:P.info? e=some i) (hz:i.zero=some z) (rB:i.size=1) (FW:i.bytes=16) (tP:z.cells.size=1)
  (lo:Nat) (tE:lo≤w.heap.size) (u:Value) (L:List ByteArray) (hv:a.eval v=u) (h:names w e lo u L) (b:Nat) (s:ByteArray) (hx:a.eval x= .slice (some ⟨b,0,none⟩) 1 1) (hb:w.cell? ⟨b,0,none⟩=some (.string s))
  (hn:L.length+1≤4398046511104)
  (hK:∀ u' w',names w' e lo u' (L++[s])→qI lo w w'→wpList P ops Q rest (a.put o.dst u') w'):wpList P ops Q (o::rest) a w:=by
 refine wpList_plain tv fun K' rj=> ?_
 have vR:∀ j u,[Value.string s][j]? =some u→w.cell? ((⟨b,0,none⟩:Addr).add j)=some u:=fun j u hj=>by
  match j,hj with
  |0,hj=>simp at hj;subst hj;simpa[Addr.add]using hb
 have key:∃ u' w',(Builtin.append_ #[t,t] o.type #[u,.slice (some ⟨b,0,none⟩) 1 1]).run P w= .ok u' w'∧names w' e lo u' (L++[s])∧qI lo w w':=by
  obtain⟨a0,cap,rfl,h1,h2,h3⟩:=h
  have grown:∀ old,names (w.drew.alloc (.cells ((L.map Value.string).toArray++[Value.string s].toArray++Builtin.zeroCells z.cells (grownCap w (L.length+1) old e-(L.length+1))) e)) e lo (.slice (some ⟨w.heap.size,0,none⟩) (L.length+1) (grownCap w (L.length+1) old e)) (L++[s]):=fun old=>by
   have tw:=grownCap_ge w (L.length+1) old e
   have vJ:=grownCap_le_maxLen w (L.length+1) old e (by unfold maxLen;omega)
   refine⟨_,_,by simp,by simpa using tw,vJ,fun _=>⟨w.heap.size,0,_,rfl,tE,heap_alloc_new w.drew _,?_,fun j hj=> ?_⟩⟩
   ·simp only[Array.size_append,Z2,size_zeroCells,tP,Z7,Zg];omega
   ·have e1:(L.map Value.string).toArray++[Value.string s].toArray=((L++[s]).map Value.string).toArray:=by simp
    rw[e1,Zl,Array.getElem?_append_left (by simpa using hj),X1,YK,ZX hj];rfl
  have cw:∀ old,qI lo w (w.drew.alloc (.cells ((L.map Value.string).toArray++[Value.string s].toArray++Builtin.zeroCells z.cells (grownCap w (L.length+1) old e-(L.length+1))) e)):=fun old=>
   ⟨rfl,rfl,rfl,by simp,fun k _ hk=>heap_alloc_old w.drew _ hk,fun k hk _=>heap_alloc_old w.drew _ hk⟩
  by_cases hc:cap=0
  ·subst hc
   have hL:L=[]:=ZM (by omega)
   subst hL
   cases a0 with
   |none=>
    have hr:=run_append_nil (P:=P) w t o.type e i z ht hi hz ⟨b,0,none⟩ 1 1 [.string s] (by simp[rB]) vR (by omega) (by omega) (by rw[FW];omega)
    have:=grown 0
    have:=cw 0
    simp only[Z5,Y5,Zl,Y0,Array.empty_append]at *
    exact⟨_,_,hr,by assumption,by assumption⟩
   |some a1=>
    have hr:=run_append_grow (P:=P) w t o.type e i z ht hi hz a1 0 0 [] (by simp) (by simp) ⟨b,0,none⟩ 1 1 [.string s] (by simp[rB]) vR (by omega) (by omega) (growslice_fits (by omega) (by rw[FW];omega))
    have:=grown 0
    have:=cw 0
    simp only[Z5,Y5,Zl,Y0]at *
    exact⟨_,_,hr,by assumption,by assumption⟩
  ·obtain⟨g,off,cur,rfl,g2,g3,g4,g5⟩:=h3 (by omega)
   by_cases Cm:L.length+1≤cap
   ·have hr:=ahU (P:=P) w t o.type e i ht hi g off L.length cap cur g3 ⟨b,0,none⟩ 1 1 [.string s] (by simp[rB]) vR (by intro y hy;rw[Zq]at hy;subst hy;rfl) Cm (by rw[rB];simp;omega)
    refine⟨_,_,hr,⟨_,cap,by simp,by simpa using Cm,h2,fun _=>⟨g,off,_,rfl,g2,setRow_heap w g cur _ e _ g3,?_,fun j hj=> ?_⟩⟩,?_⟩
    ·simp only[Z2,Z9,Z4,X9,Zi,rB];simp;omega
    ·simp only[rB,YO,X1]
     by_cases kM:j<L.length
     ·rw[ZB,Y7 (by simp;omega),List.getElem?_take,Z3 (by omega)]
      rw[Y4 kM]
      simpa using g5 j kM
     ·have:j=L.length:=by simp at hj;omega
      subst this
      rw[ZB,YA (by simp;omega)]
      simp
      rw[X4 (by omega)];simp
    ·refine⟨rfl,rfl,rfl,by simp[World.setRow],fun k hk _=>setRow_other w g k _ (by omega),fun k hk hn=>setRow_other w g k _ (fun e1=> ?_)⟩
     subst e1;exact hn _ _ _ g3
   ·have holds:∀ j u,(L.map Value.string)[j]? =some u→w.cell? ((⟨g,off,none⟩:Addr).add j)=some u:=fun j u hj=>by
     rw[YK,ZO]at hj
     obtain⟨y,hy,rfl⟩:=hj
     obtain⟨hj,rfl⟩:=ZE.1 hy
     rw[Addr.add_lit,lh g3];exact g5 j hj
    have hr:=run_append_grow (P:=P) w t o.type e i z ht hi hz ⟨g,off,none⟩ L.length cap (L.map .string) (by simp[rB]) holds ⟨b,0,none⟩ 1 1 [.string s] (by simp[rB]) vR (by omega) (by omega) (growslice_fits (by omega) (by rw[FW];omega))
    exact⟨_,_,hr,grown cap,cw cap⟩
 obtain⟨u',w',hr,h2,h3⟩:=key
 unfold Oper.wp execOp
 simp only[ho,resolve,invoke,builtin,Sem.run_bind,Sem.run_pure,Result.andThen_ok,List.map_toArray,ZC,Y5,hv,hx,hr]
 exact rj _ _ (hK u' w' h2 h3)
end
end Go.Tb
namespace Go.Proofs
open Go.Shelf
def Tryz.sort82_ren:Go.Shelf.Ren:=⟨fun|6=>82|8=>135|9=>134|19=>184|20=>157|21=>175|22=>176|23=>177|24=>178|25=>179|26=>180|27=>181|28=>182|29=>183|36=>217|31=>218|32=>219|37=>220|38=>221|39=>222|41=>238|n=>n,fun|27=>67|29=>9|3=>3|32=>115|26=>67|0=>0|44=>181|46=>27|4=>4|36=>194|35=>193|41=>184|5=>5|9=>9|53=>213|57=>217|63=>227|64=>228|n=>n,fun|n=>n⟩
theorem Tryz.sort82:Go.Proofs.SlLaysM.n6 Tryz.prog Tryz.sort82_ren:={
 mixed:=by kernel_rfl
 f6:=⟨Tryz.f82.name,by decide,Tryz.func82.trans (Zy some (by kernel_rfl))⟩
 f8:=Tryz.func135.trans (Zy some (by kernel_rfl))
 f9:=⟨Tryz.f134.name,by decide,Tryz.func134.trans (Zy some (by kernel_rfl))⟩
 f19:=Tryz.func184.trans (Zy some (by kernel_rfl))
 f20:=Tryz.func157.trans (Zy some (by kernel_rfl))
 f21:=⟨Tryz.f175.name,by decide,Tryz.func175.trans (Zy some (by kernel_rfl))⟩
 f22:=⟨Tryz.f176.name,by decide,Tryz.func176.trans (Zy some (by kernel_rfl))⟩
 f23:=⟨Tryz.f177.name,by decide,Tryz.func177.trans (Zy some (by kernel_rfl))⟩
 f24:=⟨Tryz.f178.name,by decide,Tryz.func178.trans (Zy some (by kernel_rfl))⟩
 f25:=⟨Tryz.f179.name,by decide,Tryz.func179.trans (Zy some (by kernel_rfl))⟩
 f26:=⟨Tryz.f180.name,by decide,Tryz.func180.trans (Zy some (by kernel_rfl))⟩
 f27:=⟨Tryz.f181.name,by decide,Tryz.func181.trans (Zy some (by kernel_rfl))⟩
 f28:=⟨Tryz.f182.name,by decide,Tryz.func182.trans (Zy some (by kernel_rfl))⟩
 f29:=⟨Tryz.f183.name,by decide,Tryz.func183.trans (Zy some (by kernel_rfl))⟩
 f31:=Tryz.func218.trans (Zy some (by kernel_rfl))
 f32:=Tryz.func219.trans (Zy some (by kernel_rfl))
 f36:=⟨Tryz.f217.name,by decide,Tryz.func217.trans (Zy some (by kernel_rfl))⟩
 f37:=⟨Tryz.f220.name,by decide,Tryz.func220.trans (Zy some (by kernel_rfl))⟩
 f38:=⟨Tryz.f221.name,by decide,Tryz.func221.trans (Zy some (by kernel_rfl))⟩
 f39:=⟨Tryz.f222.name,by decide,Tryz.func222.trans (Zy some (by kernel_rfl))⟩
 f41:=⟨Tryz.f238.name,by decide,Tryz.func238.trans (Zy some (by kernel_rfl))⟩
 t0:=Tryz.underlying0
 a0:=Tryz.isAgg0
 z0:=Tryz.sizeOf0
 v0:=Tryz.zeroValue0
 t3:=Tryz.underlying3
 a3:=Tryz.isAgg3
 z3:=Tryz.sizeOf3
 v3:=Tryz.zeroValue3
 t4:=Tryz.underlying4
 a4:=Tryz.isAgg4
 z4:=Tryz.sizeOf4
 v4:=Tryz.zeroValue4
 t5:=Tryz.underlying5
 a5:=Tryz.isAgg5
 z5:=Tryz.sizeOf5
 v5:=Tryz.zeroValue5
 t9:=Tryz.underlying9
 a9:=Tryz.isAgg9
 z9:=Tryz.sizeOf9
 v9:=Tryz.zeroValue9
 t26:=Tryz.underlying67
 a26:=Tryz.isAgg67
 z26:=Tryz.sizeOf67
 v26:=Tryz.zeroValue67
 t27:=Tryz.underlying67
 a27:=Tryz.isAgg67
 z27:=Tryz.sizeOf67
 v27:=Tryz.zeroValue67
 t29:=Tryz.underlying9
 a29:=Tryz.isAgg9
 z29:=Tryz.sizeOf9
 v29:=Tryz.zeroValue9
 t32:=Tryz.underlying115
 a32:=Tryz.isAgg115
 z32:=Tryz.sizeOf115
 v32:=Tryz.zeroValue115
 t35:=Tryz.underlying193
 a35:=Tryz.isAgg193
 z35:=Tryz.sizeOf193
 v35:=Tryz.zeroValue193
 t36:=Tryz.underlying194
 a36:=Tryz.isAgg194
 z36:=Tryz.sizeOf194
 v36:=Tryz.zeroValue194
 t41:=Tryz.underlying184
 a41:=Tryz.isAgg184
 z41:=Tryz.sizeOf184
 v41:=Tryz.zeroValue184
 t44:=Tryz.underlying181
 a44:=Tryz.isAgg181
 z44:=Tryz.sizeOf181
 v44:=Tryz.zeroValue181
 t46:=Tryz.underlying27
 a46:=Tryz.isAgg27
 z46:=Tryz.sizeOf27
 v46:=Tryz.zeroValue27
 t53:=Tryz.underlying213
 a53:=Tryz.isAgg213
 z53:=Tryz.sizeOf213
 v53:=Tryz.zeroValue213
 t57:=Tryz.underlying217
 a57:=Tryz.isAgg217
 z57:=Tryz.sizeOf217
 v57:=Tryz.zeroValue217
 t63:=Tryz.underlying227
 a63:=Tryz.isAgg227
 z63:=Tryz.sizeOf227
 v63:=Tryz.zeroValue227
 t64:=Tryz.underlying228
 a64:=Tryz.isAgg228
 z64:=Tryz.sizeOf228
 v64:=Tryz.zeroValue228}
def Tryz.sorted53_ren:Go.Shelf.Ren:=⟨fun|6=>53|8=>81|9=>82|11=>133|13=>135|12=>134|23=>184|24=>157|14=>175|15=>176|16=>177|17=>178|18=>179|19=>180|20=>181|21=>182|22=>183|25=>217|26=>218|27=>219|28=>220|29=>221|30=>222|31=>238|n=>n,fun|26=>9|28=>90|24=>67|0=>0|3=>3|37=>115|48=>181|50=>27|4=>4|40=>194|39=>193|45=>184|5=>5|9=>9|51=>213|55=>217|57=>227|58=>228|33=>79|n=>n,fun|n=>n⟩
theorem Tryz.sorted53:Go.Proofs.SlLaysZ.n6 Tryz.prog Tryz.sorted53_ren:={
 mixed:=by kernel_rfl
 f6:=⟨Tryz.f53.name,by decide,Tryz.func53.trans (Zy some (by kernel_rfl))⟩
 f8:=⟨Tryz.f81.name,by decide,Tryz.func81.trans (Zy some (by kernel_rfl))⟩
 f11:=⟨Tryz.f133.name,by decide,Tryz.func133.trans (Zy some (by kernel_rfl))⟩
 t0:=Tryz.underlying0
 a0:=Tryz.isAgg0
 z0:=Tryz.sizeOf0
 v0:=Tryz.zeroValue0
 t24:=Tryz.underlying67
 a24:=Tryz.isAgg67
 z24:=Tryz.sizeOf67
 v24:=Tryz.zeroValue67
 t26:=Tryz.underlying9
 a26:=Tryz.isAgg9
 z26:=Tryz.sizeOf9
 v26:=Tryz.zeroValue9
 t28:=Tryz.underlying90
 a28:=Tryz.isAgg90
 z28:=Tryz.sizeOf90
 v28:=Tryz.zeroValue90
 i26:=by kernel_rfl}
def Tryz.keys54_ren:Go.Shelf.Ren:=⟨fun|7=>54|10=>83|n=>n,fun|23=>86|26=>9|3=>4|28=>90|0=>0|27=>89|33=>79|4=>4|n=>n,fun|n=>n⟩
theorem Tryz.keys54:Go.Proofs.SlLaysZ.n7 Tryz.prog Tryz.keys54_ren:={
 mixed:=by kernel_rfl
 f7:=⟨Tryz.f54.name,by decide,Tryz.func54.trans (Zy some (by kernel_rfl))⟩
 f10:=⟨Tryz.f83.name,by decide,Tryz.func83.trans (Zy some (by kernel_rfl))⟩
 t0:=Tryz.underlying0
 a0:=Tryz.isAgg0
 z0:=Tryz.sizeOf0
 v0:=Tryz.zeroValue0
 t4:=Tryz.underlying4
 a4:=Tryz.isAgg4
 z4:=Tryz.sizeOf4
 v4:=Tryz.zeroValue4
 t23:=Tryz.underlying86
 a23:=Tryz.isAgg86
 z23:=Tryz.sizeOf86
 v23:=Tryz.zeroValue86
 t26:=Tryz.underlying9
 a26:=Tryz.isAgg9
 z26:=Tryz.sizeOf9
 v26:=Tryz.zeroValue9
 t27:=Tryz.underlying89
 a27:=Tryz.isAgg89
 z27:=Tryz.sizeOf89
 v27:=Tryz.zeroValue89
 t28:=Tryz.underlying90
 a28:=Tryz.isAgg90
 z28:=Tryz.sizeOf90
 v28:=Tryz.zeroValue90
 t33:=Tryz.underlying79
 a33:=Tryz.isAgg79
 z33:=Tryz.sizeOf79
 v33:=Tryz.zeroValue79}
def Tryz.keys57_ren:Go.Shelf.Ren:=⟨fun|7=>57|10=>87|n=>n,fun|23=>94|26=>9|3=>86|28=>90|0=>0|27=>89|33=>79|4=>4|n=>n,fun|n=>n⟩
theorem Tryz.keys57:Go.Proofs.SlLaysZ.n7 Tryz.prog Tryz.keys57_ren:={
 mixed:=by kernel_rfl
 f7:=⟨Tryz.f57.name,by decide,Tryz.func57.trans (Zy some (by kernel_rfl))⟩
 f10:=⟨Tryz.f87.name,by decide,Tryz.func87.trans (Zy some (by kernel_rfl))⟩
 t0:=Tryz.underlying0
 a0:=Tryz.isAgg0
 z0:=Tryz.sizeOf0
 v0:=Tryz.zeroValue0
 t4:=Tryz.underlying4
 a4:=Tryz.isAgg4
 z4:=Tryz.sizeOf4
 v4:=Tryz.zeroValue4
 t23:=Tryz.underlying94
 a23:=Tryz.isAgg94
 z23:=Tryz.sizeOf94
 v23:=Tryz.zeroValue94
 t26:=Tryz.underlying9
 a26:=Tryz.isAgg9
 z26:=Tryz.sizeOf9
 v26:=Tryz.zeroValue9
 t27:=Tryz.underlying89
 a27:=Tryz.isAgg89
 z27:=Tryz.sizeOf89
 v27:=Tryz.zeroValue89
 t28:=Tryz.underlying90
 a28:=Tryz.isAgg90
 z28:=Tryz.sizeOf90
 v28:=Tryz.zeroValue90
 t33:=Tryz.underlying79
 a33:=Tryz.isAgg79
 z33:=Tryz.sizeOf79
 v33:=Tryz.zeroValue79}
def Tryz.del85_ren:Go.Shelf.Ren:=⟨fun|5=>85|n=>n,fun|23=>86|26=>9|24=>4|27=>127|0=>0|4=>4|n=>n,fun|n=>n⟩
theorem Tryz.del85:Go.Proofs.SlLaysDf.n5 Tryz.prog Tryz.del85_ren:={
 mixed:=by kernel_rfl
 f5:=⟨Tryz.f85.name,by decide,Tryz.func85.trans (Zy some (by kernel_rfl))⟩
 t0:=Tryz.underlying0
 a0:=Tryz.isAgg0
 z0:=Tryz.sizeOf0
 v0:=Tryz.zeroValue0
 t4:=Tryz.underlying4
 a4:=Tryz.isAgg4
 z4:=Tryz.sizeOf4
 v4:=Tryz.zeroValue4
 t23:=Tryz.underlying86
 a23:=Tryz.isAgg86
 z23:=Tryz.sizeOf86
 v23:=Tryz.zeroValue86
 a24:=Tryz.isAgg4
 z24:=Tryz.sizeOf4
 a26:=Tryz.isAgg9
 z26:=Tryz.sizeOf9
 t27:=Tryz.underlying127
 a27:=Tryz.isAgg127
 z27:=Tryz.sizeOf127
 v27:=Tryz.zeroValue127}
end Go.Proofs
namespace Go.Proofs
open Go.RowKit Go.Maps Go.Sort Go.Shelf
theorem Tryz.sorts53(m:Nat):AnyZ.SortsIn Tryz.prog Tryz.sorted53_ren Fence.wide m:=
 ⟨fun pA off cap ss W hH acI bC=>callsIn_wide.2 (AnyM.slices_Sort_string Tryz.sort82 pA off cap ss W hH acI bC),
  fun p cap W=>callsIn_wide.2 (AnyM.slices_Sort_string_none Tryz.sort82 p cap W)⟩
theorem Tryz.maps_Keys_54(mb:Option Nat)(W:World):CallsIn Fence.wide 5 Tryz.prog 54 #[.map mb] W fun e w'=>e= .returned (.func (.func 83) #[] #[.pointer (some ⟨W.heap.size,0,none⟩)])∧w'=W.alloc (.cells #[.map mb] 86):=
 AnyZ.keys_in Tryz.keys54 Fence.wide 5 trivial rfl mb W
set_option maxHeartbeats 1000000 in
theorem Tryz.slices_Sorted_keys_53_54{H:Type}(b nn:Nat)(D0:DataW H)(R:Value→Option (DataW H×List MemPlace))(w:World)(ep:w.ownsMap Tryz.prog 9 R b nn D0)(pQ:Maps.size D0≤maxLen)(FX:Maps.size D0 * 16≤140737488355328):
  CallsIn Fence.wide 5 Tryz.prog 53 #[.func (.func 83) #[] #[.pointer (some ⟨w.heap.size,0,none⟩)]] (w.alloc (.cells #[.map (some b)] 86)) fun e w'=>∃ (v:Value) (ss:List (List UInt8)),e= .returned v∧ss.Perm (strKeys D0)∧
   w'.ownsRow (w.alloc (.cells #[.map (some b)] 86)).heap.size 9 1 v ss.length ((ss.mergeSort (fun x y=>decide (x≤y))).map encStr)∧(v= .slice none 0 0↔ss=[])∧Below (w.alloc (.cells #[.map (some b)] 86)).heap.size (w.alloc (.cells #[.map (some b)] 86)) w':=by
 have fU:=ep.lt
 have GK:SeqGives Fence.wide 2 Tryz.prog 83 #[.pointer (some ⟨w.heap.size,0,none⟩)] encStr (fun ss=>ss.Perm (strKeys D0)) (Maps.size D0) (w.alloc (.cells #[.map (some b)] 86)):=
  AnyZ.keys_gives (ρ:=Tryz.keys54_ren) {Tryz.keys54 with} Fence.wide _ trivial rfl (by omega) w.heap.size b nn D0 _ (by simp) (by simp) (by
   obtain⟨es,clock,hb,Ft,hs,hD⟩:=ep
   exact⟨es,clock,(Below.heap_alloc _ _ b fU).trans hb,Ft,hs,hD⟩)
 exact AnyZ.sorted_in Tryz.sorted53 Fence.wide 5 trivial trivial trivial trivial rfl (by omega) (Tryz.sorts53 _) (enters_of Tryz.func82 (by kernel_rfl) rfl) 83 #[.pointer (some ⟨w.heap.size,0,none⟩)] trivial (enters_of Tryz.func83 (by kernel_rfl) rfl) _ _ pQ FX _ GK
theorem Tryz.maps_Keys_57(mb:Option Nat)(W:World):CallsIn Fence.wide 5 Tryz.prog 57 #[.map mb] W fun e w'=>e= .returned (.func (.func 87) #[] #[.pointer (some ⟨W.heap.size,0,none⟩)])∧w'=W.alloc (.cells #[.map mb] 94):=
 AnyZ.keys_in Tryz.keys57 Fence.wide 5 trivial rfl mb W
set_option maxHeartbeats 1000000 in
theorem Tryz.slices_Sorted_keys_53_57{H:Type}(b nn:Nat)(D0:DataW H)(R:Value→Option (DataW H×List MemPlace))(w:World)(ep:w.ownsMap Tryz.prog 9 R b nn D0)(pQ:Maps.size D0≤maxLen)(FX:Maps.size D0 * 16≤140737488355328):
  CallsIn Fence.wide 5 Tryz.prog 53 #[.func (.func 87) #[] #[.pointer (some ⟨w.heap.size,0,none⟩)]] (w.alloc (.cells #[.map (some b)] 94)) fun e w'=>∃ (v:Value) (ss:List (List UInt8)),e= .returned v∧ss.Perm (strKeys D0)∧
   w'.ownsRow (w.alloc (.cells #[.map (some b)] 94)).heap.size 9 1 v ss.length ((ss.mergeSort (fun x y=>decide (x≤y))).map encStr)∧(v= .slice none 0 0↔ss=[])∧Below (w.alloc (.cells #[.map (some b)] 94)).heap.size (w.alloc (.cells #[.map (some b)] 94)) w':=by
 have fU:=ep.lt
 have GK:SeqGives Fence.wide 2 Tryz.prog 87 #[.pointer (some ⟨w.heap.size,0,none⟩)] encStr (fun ss=>ss.Perm (strKeys D0)) (Maps.size D0) (w.alloc (.cells #[.map (some b)] 94)):=
  AnyZ.keys_gives (ρ:=Tryz.keys57_ren) {Tryz.keys57 with} Fence.wide _ trivial rfl (by omega) w.heap.size b nn D0 _ (by simp) (by simp) (by
   obtain⟨es,clock,hb,Ft,hs,hD⟩:=ep
   exact⟨es,clock,(Below.heap_alloc _ _ b fU).trans hb,Ft,hs,hD⟩)
 exact AnyZ.sorted_in Tryz.sorted53 Fence.wide 5 trivial trivial trivial trivial rfl (by omega) (Tryz.sorts53 _) (enters_of Tryz.func82 (by kernel_rfl) rfl) 87 #[.pointer (some ⟨w.heap.size,0,none⟩)] trivial (enters_of Tryz.func87 (by kernel_rfl) rfl) _ _ pQ FX _ GK
end Go.Proofs
namespace Go.Proofs
open Go.Shelf
def Tryz.laysNm216_ren:Go.Shelf.Ren:=⟨fun|16=>88|n=>n,fun|24=>67|9=>9|4=>4|n=>n,fun|n=>n⟩
theorem Tryz.laysNm216:Go.Proofs.Lays2.n16 Tryz.prog Tryz.laysNm216_ren:={
 mixed:=by kernel_rfl
 f16:=Tryz.func88.trans (Zy some (by kernel_rfl))
 t4:=Tryz.underlying4
 a4:=Tryz.isAgg4
 z4:=Tryz.sizeOf4
 v4:=Tryz.zeroValue4
 t9:=Tryz.underlying9
 a9:=Tryz.isAgg9
 z9:=Tryz.sizeOf9
 v9:=Tryz.zeroValue9
 t24:=Tryz.underlying67
 a24:=Tryz.isAgg67
 z24:=Tryz.sizeOf67
 v24:=Tryz.zeroValue67
 i9:=by kernel_rfl}
open Go.RowKit Go.Lib in
theorem Tryz.slices_Clone_string(b off n c:Nat)(zs:List ByteArray)(w:World)(hz:n≤zs.length)(oA:n * 16≤140737488355328)(hc:∀ j,j<zs.length→w.cell? ⟨b,off+j,none⟩=some (.string (zs.getD j ByteArray.empty))):
  Calls Tryz.prog 88 #[.slice (some ⟨b,off,none⟩) n c] w fun e w'=>∃ v',e= .returned v'∧w'.ownsRow w.heap.size 9 1 v' n ((zs.take n).map (Value.string))∧v'≠.slice none 0 0∧Below w.heap.size w w':=Any.slices_Clone_string Tryz.laysNm216 b off n c zs w hz oA hc
end Go.Proofs
