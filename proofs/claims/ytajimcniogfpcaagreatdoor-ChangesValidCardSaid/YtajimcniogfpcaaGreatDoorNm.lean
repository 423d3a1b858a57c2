/- Slices of names, in the walk's words: read at the head, cut at the head, grown by one. -/
import Derived.Test.YtajimcniogfpcaaGreatDoorSet
import Derived.Laws.AppendOwn
import Derived.Laws.Slices
import Derived.Shelf.SlIter.Nil
import Derived.Shelf.SortM.Plain
import Derived.Shelf.SortM.SortNone
import Derived.Shelf.SlMaps.DeleteFunc
import Derived.Test.YtajimcniogfpcaaGreatDoorChecked
import Derived.Shelf.Slices.Clone
import Derived.Test.YtajimcniogfpcaaGreatDoorSxX
set_option linter.unusedSimpArgs false
set_option linter.unusedVariables false
set_option linter.unusedSectionVars false
namespace Go.Tb
open Go.RowKit
def names(w:World)(e:TypeId)(lo:Nat)(v:Value)(L:List ByteArray):Prop:=
 ∃ a cap,v= .slice a L.length cap∧L.length≤cap∧cap≤maxLen∧
  (0<cap→∃ g off cur,a=some ⟨g,off,none⟩∧lo≤g∧w.heap[g]? =some (.cells cur e (0,0))∧off+cap≤cur.size∧∀ j (hj:j<L.length),cur[off+j]? =some (.string L[j]))
structure tB(lo:Nat)(w w':World):Prop where
 os:w'.os=w.os
 tape:w'.tape=w.tape
 output:w'.output=w.output
 size:w.heap.size≤w'.heap.size
 below:∀ k,k<lo→k<w.heap.size→w'.heap[k]? =w.heap[k]?
 other:∀ k,k<w.heap.size→(∀ cs t f,w.heap[k]?≠some (.cells cs t f))→w'.heap[k]? =w.heap[k]?
theorem dC.rB{w w':World}{lo:Nat}{P:Program}{k:TypeId}{R:Value→Option (DataW Unit×List MemPlace)}{b:Nat}{L:List ByteArray}{f:ByteArray→DataW Unit}(h:dC w P k R b L f)(hc:tB lo w w'):dC w' P k R b L f:=
 h.block (hc.other b h.lt fun cs t fr e=>by obtain⟨es,c,h⟩:=h.isMap;rw[h]at e;cases e)
theorem fM.rB{w w':World}{lo:Nat}{P:Program}{k:TypeId}{R:Value→Option (DataW Unit×List MemPlace)}{b r:Nat}{L:List ByteArray}{f:ByteArray→DataW Unit}{left:ByteArray→Prop}{bu:Nat}(h:fM w P k R b r L f left bu)(hc:tB lo w w'):fM w' P k R b r L f left bu:=by
 have hb:=h.dC
 obtain⟨x,y,z,u,hr⟩:=h.iter
 have e1:w'.heap[b]? =w.heap[b]? :=hc.other b hb.lt fun cs t fr e=>by obtain⟨es,c,h⟩:=hb.isMap;rw[h]at e;cases e
 have e2:w'.heap[r]? =w.heap[r]? :=hc.other r (ZX.1 hr).1 fun cs t fr e=>by rw[hr]at e;cases e
 obtain⟨h1,h2,D,lf,⟨es,clock,since,seen,c0,g1,g2,g3,g4,g5,g6⟩,h4,h5,h6⟩:=h
 exact⟨h1,h2,D,lf,⟨es,clock,since,seen,c0,e1.trans g1,g2,g3,g4,e2.trans g5,g6⟩,h4,h5,h6⟩
theorem names.Ts{w:World}{e:TypeId}{base:Nat}{v:Value}{L:List ByteArray}(h:w.ownsRow base e 1 v L.length (L.map .string)):names w e base v L:=by
 obtain⟨h1,h2⟩:=h
 rcases h2 with⟨rfl,hn⟩|⟨g,cap,cur,rfl,hb,hg,hc,hm,hs,ht⟩
 ·exact⟨none,0,by rw[hn],by omega,by simp,fun h=>absurd h (by omega)⟩
 ·refine⟨_,cap,rfl,hc,hm,fun _=>⟨g,0,cur,rfl,hb,hg,by omega,fun j hj=> ?_⟩⟩
  have e1:=Ze (fun l=>l[j]?) ht
  simp only[XY,YU,ZW hj,Yq,ZY hj,ZD]at e1
  rw[ZA];simpa using e1
theorem names.mono{w:World}{e:TypeId}{lo Lr:Nat}{v:Value}{L:List ByteArray}(h:names w e lo v L)(hl:Lr≤lo):names w e Lr v L:=by
 obtain⟨a,cap,rfl,h1,h2,h3⟩:=h
 exact⟨a,cap,rfl,h1,h2,fun hc=>by obtain⟨g,off,cur,g1,g2,g3⟩:=h3 hc;exact⟨g,off,cur,g1,ZG hl g2,g3⟩⟩
theorem names.len{w:World}{e:TypeId}{lo:Nat}{v:Value}{L:List ByteArray}(h:names w e lo v L):L.length≤maxLen:=by
 obtain⟨a,cap,rfl,h1,h2,h3⟩:=h;omega
theorem names.aQ{w w':World}{e:TypeId}{lo:Nat}{v:Value}{L:List ByteArray}(h:names w e lo v L)(hk:∀ (g:Nat) (cur:Array Value) (t:TypeId) (f:Nat×Nat),w.heap[g]? =some (Obj.cells cur t f)→w'.heap[g]? =w.heap[g]?):names w' e lo v L:=by
 obtain⟨a,cap,rfl,h1,h2,h3⟩:=h
 exact⟨a,cap,rfl,h1,h2,fun hc=>by obtain⟨g,off,cur,g1,g2,g3,g4⟩:=h3 hc;exact⟨g,off,cur,g1,g2,(hk g _ _ _ g3).trans g3,g4⟩⟩
theorem names.alloc{w:World}{e:TypeId}{lo:Nat}{v:Value}{L:List ByteArray}(h:names w e lo v L)(o:Obj):names (w.alloc o) e lo v L:=
 h.aQ fun g cur t f hg=>heap_alloc_old w o (ZX.1 hg).1
theorem names.grown{w w':World}{e:TypeId}{lo b:Nat}{v:Value}{L:List ByteArray}(h:names w e lo v L)(hg:w.grownBy w' (some b))(hb:∀ cs t f,w.heap[b]?≠some (.cells cs t f)):names w' e lo v L:=
 h.aQ fun g cur t f xd=>hg.block g (ZX.1 xd).1 fun e1=>by cases e1;exact hb _ _ _ xd
theorem names.new{w w':World}{e:TypeId}{lo:Nat}{v:Value}{L:List ByteArray}(h:names w e lo v L)(hg:w.grownBy w' none):names w' e lo v L:=
 h.aQ fun g cur t f xd=>hg.block g (ZX.1 xd).1 (by simp)
theorem oO{w:World}{g off:Nat}{cur:Array Value}{t:TypeId}{f:Nat×Nat}(h:w.heap[g]? =some (Obj.cells cur t f)):w.cell? ⟨g,off,none⟩=cur[off]? :=by
 simp[World.cell?,h]
theorem names.head{w:World}{e:TypeId}{lo:Nat}{v:Value}{s:ByteArray}{L:List ByteArray}(h:names w e lo v (s::L)):∃ g off cap,v= .slice (some ⟨g,off,none⟩) (L.length+1) cap∧w.cell? ⟨g,off,none⟩=some (.string s):=by
 obtain⟨a,cap,rfl,h1,h2,h3⟩:=h
 simp only[Z8]at h1
 obtain⟨g,off,cur,rfl,g2,g3,g4,g5⟩:=h3 (by omega)
 refine⟨g,off,cap,by simp,?_⟩
 have:=g5 0 (by simp)
 rw[oO g3];simpa using this
theorem names.cell{w:World}{e:TypeId}{lo:Nat}{v:Value}{L:List ByteArray}(h:names w e lo v L){i:Nat}(hi:i<L.length):∃ g off cap,v= .slice (some ⟨g,off,none⟩) L.length cap∧w.cell? ⟨g,off+i,none⟩=some (.string L[i]):=by
 obtain⟨a,cap,rfl,h1,h2,h3⟩:=h
 obtain⟨g,off,cur,rfl,g2,g3,g4,g5⟩:=h3 (by omega)
 exact⟨g,off,cap,rfl,by rw[oO g3];exact g5 i hi⟩
theorem names.shape{w:World}{e:TypeId}{lo:Nat}{v:Value}{L:List ByteArray}(h:names w e lo v L):∃ a cap,v= .slice a L.length cap:=by
 obtain⟨a,cap,rfl,_⟩:=h;exact⟨a,cap,rfl⟩
section
variable {P:Program}{ops:Array Oper}{rest:List Oper}{o:Oper}{a:Act}{Q:Exit→Act→World→Prop}
theorem ajh(w:World)(t ty e:TypeId)(i:TypeInfo)(ht:P.underlying t=some (.slice e))(hi:P.info? e=some i)
  (g off pI C6:Nat) (cur:Array Value) (hg:w.heap[g]? =some (.cells cur e (0,0)))
  (a:Addr) (m c:Nat) (news:List Value) (hl:news.length=m * i.size) (nR:∀ j u,news[j]? =some u→w.cell? (a.add j)=some u) (h1:∀ u∈news,u.oneCell'=true)
  (dU:pI+m≤C6) (Cb:off+pI * i.size+news.length≤cur.size):
  (Builtin.append_ #[t,t] ty #[.slice (some ⟨g,off,none⟩) pI C6,.slice (some a) m c]).run P w=
   .ok (.slice (some ⟨g,off,none⟩) (pI+m) C6) (w.setRow g (cur.toList.take (off+pI * i.size)++news++cur.toList.drop (off+pI * i.size+news.length)).toArray):=by
 have hf:=run_firstCells_some (P:=P) w i.size m a m c news hl nR
 have eU:=run_storeCells_at P g (off+pI * i.size) e news 0 cur w hg (by simpa using Cb) h1
 simp only[Yr]at eU
 simp[Builtin.append_,run_underlying ht,sizeOf,typeInfo,hi,Builtin.lenOf,dU,hf,Addr.add_lit,eU]
theorem alZ(w:World)(Ce:o.guard=none)(v x:Operand)(t:TypeId)(ho:o.op= .call {callee:= .builtin .append,args:= #[v,x],argTypes:= #[t,t]})
  (e:TypeId) (i:TypeInfo) (z:Value) (ht:P.underlying t=some (.slice e)) (hi:P.info? e=some i) (hz:i.zero=some z) (uR:i.size=1) (JX:i.bytes=16) (fK:z.cells.size=1)
  (lo:Nat) (zP:lo≤w.heap.size) (u:Value) (L:List ByteArray) (hv:a.eval v=u) (h:names w e lo u L) (b:Nat) (s:ByteArray) (hx:a.eval x= .slice (some ⟨b,0,none⟩) 1 1) (hb:w.cell? ⟨b,0,none⟩=some (.string s))
  (hn:L.length+1≤4398046511104)
  (hK:∀ u' w',names w' e lo u' (L++[s])→tB lo w w'→wpList P ops Q rest (a.put o.dst u') w'):wpList P ops Q (o::rest) a w:=by
 refine wpList_plain Ce fun K' uw=> ?_
 have nR:∀ j u,[Value.string s][j]? =some u→w.cell? ((⟨b,0,none⟩:Addr).add j)=some u:=fun j u hj=>by
  match j,hj with
  |0,hj=>simp at hj;subst hj;simpa[Addr.add]using hb
 have key:∃ u' w',(Builtin.append_ #[t,t] o.type #[u,.slice (some ⟨b,0,none⟩) 1 1]).run P w= .ok u' w'∧names w' e lo u' (L++[s])∧tB lo w w':=by
  obtain⟨a0,cap,rfl,h1,h2,h3⟩:=h
  have grown:∀ old,names (w.drew.alloc (.cells ((L.map Value.string).toArray++[Value.string s].toArray++Builtin.zeroCells z.cells (grownCap w (L.length+1) old e-(L.length+1))) e)) e lo (.slice (some ⟨w.heap.size,0,none⟩) (L.length+1) (grownCap w (L.length+1) old e)) (L++[s]):=fun old=>by
   have mR:=grownCap_ge w (L.length+1) old e
   have gW:=grownCap_le_maxLen w (L.length+1) old e (by unfold maxLen;omega)
   refine⟨_,_,by simp,by simpa using mR,gW,fun _=>⟨w.heap.size,0,_,rfl,zP,heap_alloc_new w.drew _,?_,fun j hj=> ?_⟩⟩
   ·simp only[Xr,ZS,size_zeroCells,fK,Z4,YZ];omega
   ·have e1:(L.map Value.string).toArray++[Value.string s].toArray=((L++[s]).map Value.string).toArray:=by simp
    rw[e1,ZA,XN (by simpa using hj),Ya,Yq,ZY hj];rfl
  have cw:∀ old,tB lo w (w.drew.alloc (.cells ((L.map Value.string).toArray++[Value.string s].toArray++Builtin.zeroCells z.cells (grownCap w (L.length+1) old e-(L.length+1))) e)):=fun old=>
   ⟨rfl,rfl,rfl,by simp,fun k _ hk=>heap_alloc_old w.drew _ hk,fun k hk _=>heap_alloc_old w.drew _ hk⟩
  by_cases hc:cap=0
  ·subst hc
   have hL:L=[]:=Zx (by omega)
   subst hL
   cases a0 with
   |none=>
    have hr:=run_append_nil (P:=P) w t o.type e i z ht hi hz ⟨b,0,none⟩ 1 1 [.string s] (by simp[uR]) nR (by omega) (by omega) (by rw[JX];omega)
    have:=grown 0
    have:=cw 0
    simp only[Z0,Y4,ZA,Zl,Array.empty_append]at *
    exact⟨_,_,hr,by assumption,by assumption⟩
   |some a1=>
    have hr:=run_append_grow (P:=P) w t o.type e i z ht hi hz a1 0 0 [] (by simp) (by simp) ⟨b,0,none⟩ 1 1 [.string s] (by simp[uR]) nR (by omega) (by omega) (growslice_fits (by omega) (by rw[JX];omega))
    have:=grown 0
    have:=cw 0
    simp only[Z0,Y4,ZA,Zl]at *
    exact⟨_,_,hr,by assumption,by assumption⟩
  ·obtain⟨g,off,cur,rfl,g2,g3,g4,g5⟩:=h3 (by omega)
   by_cases dU:L.length+1≤cap
   ·have hr:=ajh (P:=P) w t o.type e i ht hi g off L.length cap cur g3 ⟨b,0,none⟩ 1 1 [.string s] (by simp[uR]) nR (by intro y hy;rw[Zm]at hy;subst hy;rfl) dU (by rw[uR];simp;omega)
    refine⟨_,_,hr,⟨_,cap,by simp,by simpa using dU,h2,fun _=>⟨g,off,_,rfl,g2,setRow_heap w g cur _ e _ g3,?_,fun j hj=> ?_⟩⟩,?_⟩
    ·simp only[ZS,Z9,ZQ,YN,Zv,uR];simp;omega
    ·simp only[uR,XY,Ya]
     by_cases iU:j<L.length
     ·rw[Zt,YH (by simp;omega),YU,ZW (by omega)]
      rw[Yj iU]
      simpa using g5 j iU
     ·have:j=L.length:=by simp at hj;omega
      subst this
      rw[Zt,Xm (by simp;omega)]
      simp
      rw[X0 (by omega)];simp
    ·refine⟨rfl,rfl,rfl,by simp[World.setRow],fun k hk _=>setRow_other w g k _ (by omega),fun k hk hn=>setRow_other w g k _ (fun e1=> ?_)⟩
     subst e1;exact hn _ _ _ g3
   ·have holds:∀ j u,(L.map Value.string)[j]? =some u→w.cell? ((⟨g,off,none⟩:Addr).add j)=some u:=fun j u hj=>by
     rw[Yq,Z7]at hj
     obtain⟨y,hy,rfl⟩:=hj
     obtain⟨hj,rfl⟩:=ZK.1 hy
     rw[Addr.add_lit,oO g3];exact g5 j hj
    have hr:=run_append_grow (P:=P) w t o.type e i z ht hi hz ⟨g,off,none⟩ L.length cap (L.map .string) (by simp[uR]) holds ⟨b,0,none⟩ 1 1 [.string s] (by simp[uR]) nR (by omega) (by omega) (growslice_fits (by omega) (by rw[JX];omega))
    exact⟨_,_,hr,grown cap,cw cap⟩
 obtain⟨u',w',hr,h2,h3⟩:=key
 unfold Oper.wp execOp
 simp only[ho,resolve,invoke,builtin,Sem.run_bind,Sem.run_pure,Result.andThen_ok,List.map_toArray,ZE,Y4,hv,hx,hr]
 exact uw _ _ (hK u' w' h2 h3)
end
end Go.Tb
namespace Go.Proofs
open Go.Shelf
def Tryz.sort77_ren:Go.Shelf.Ren:=⟨fun|6=>77|8=>126|9=>125|19=>178|20=>179|21=>169|22=>170|23=>171|24=>172|25=>173|26=>174|27=>175|28=>176|29=>177|36=>202|31=>203|32=>204|37=>205|38=>206|39=>207|41=>243|n=>n,fun|27=>51|29=>9|3=>3|32=>174|26=>51|0=>0|44=>252|46=>158|4=>4|36=>245|35=>244|41=>249|5=>5|9=>9|53=>283|57=>154|63=>309|64=>310|n=>n,fun|n=>n⟩
theorem Tryz.sort77:Go.Proofs.SlLaysM.n6 Tryz.prog Tryz.sort77_ren:={
 mixed:=by kernel_rfl
 f6:=⟨Tryz.f77.name,by decide,Tryz.func77.trans (Ze some (by kernel_rfl))⟩
 f8:=Tryz.func126.trans (Ze some (by kernel_rfl))
 f9:=⟨Tryz.f125.name,by decide,Tryz.func125.trans (Ze some (by kernel_rfl))⟩
 f19:=Tryz.func178.trans (Ze some (by kernel_rfl))
 f20:=Tryz.func179.trans (Ze some (by kernel_rfl))
 f21:=⟨Tryz.f169.name,by decide,Tryz.func169.trans (Ze some (by kernel_rfl))⟩
 f22:=⟨Tryz.f170.name,by decide,Tryz.func170.trans (Ze some (by kernel_rfl))⟩
 f23:=⟨Tryz.f171.name,by decide,Tryz.func171.trans (Ze some (by kernel_rfl))⟩
 f24:=⟨Tryz.f172.name,by decide,Tryz.func172.trans (Ze some (by kernel_rfl))⟩
 f25:=⟨Tryz.f173.name,by decide,Tryz.func173.trans (Ze some (by kernel_rfl))⟩
 f26:=⟨Tryz.f174.name,by decide,Tryz.func174.trans (Ze some (by kernel_rfl))⟩
 f27:=⟨Tryz.f175.name,by decide,Tryz.func175.trans (Ze some (by kernel_rfl))⟩
 f28:=⟨Tryz.f176.name,by decide,Tryz.func176.trans (Ze some (by kernel_rfl))⟩
 f29:=⟨Tryz.f177.name,by decide,Tryz.func177.trans (Ze some (by kernel_rfl))⟩
 f31:=Tryz.func203.trans (Ze some (by kernel_rfl))
 f32:=Tryz.func204.trans (Ze some (by kernel_rfl))
 f36:=⟨Tryz.f202.name,by decide,Tryz.func202.trans (Ze some (by kernel_rfl))⟩
 f37:=⟨Tryz.f205.name,by decide,Tryz.func205.trans (Ze some (by kernel_rfl))⟩
 f38:=⟨Tryz.f206.name,by decide,Tryz.func206.trans (Ze some (by kernel_rfl))⟩
 f39:=⟨Tryz.f207.name,by decide,Tryz.func207.trans (Ze some (by kernel_rfl))⟩
 f41:=⟨Tryz.f243.name,by decide,Tryz.func243.trans (Ze some (by kernel_rfl))⟩
 t0:=Tryz.underlying0
 a0:=Tryz.isAgg0
 z0:=Tryz.sizeOf0
 v0:=Tryz.zeroValue0
 t3:=Tryz.underlying3
 a3:=Tryz.isAgg3
 z3:=Tryz.sizeOf3
 v3:=Tryz.zeroValue3
 t4:=Tryz.underlying4
 a4:=Tryz.isAgg4
 z4:=Tryz.sizeOf4
 v4:=Tryz.zeroValue4
 t5:=Tryz.underlying5
 a5:=Tryz.isAgg5
 z5:=Tryz.sizeOf5
 v5:=Tryz.zeroValue5
 t9:=Tryz.underlying9
 a9:=Tryz.isAgg9
 z9:=Tryz.sizeOf9
 v9:=Tryz.zeroValue9
 t26:=Tryz.underlying51
 a26:=Tryz.isAgg51
 z26:=Tryz.sizeOf51
 v26:=Tryz.zeroValue51
 t27:=Tryz.underlying51
 a27:=Tryz.isAgg51
 z27:=Tryz.sizeOf51
 v27:=Tryz.zeroValue51
 t29:=Tryz.underlying9
 a29:=Tryz.isAgg9
 z29:=Tryz.sizeOf9
 v29:=Tryz.zeroValue9
 t32:=Tryz.underlying174
 a32:=Tryz.isAgg174
 z32:=Tryz.sizeOf174
 v32:=Tryz.zeroValue174
 t35:=Tryz.underlying244
 a35:=Tryz.isAgg244
 z35:=Tryz.sizeOf244
 v35:=Tryz.zeroValue244
 t36:=Tryz.underlying245
 a36:=Tryz.isAgg245
 z36:=Tryz.sizeOf245
 v36:=Tryz.zeroValue245
 t41:=Tryz.underlying249
 a41:=Tryz.isAgg249
 z41:=Tryz.sizeOf249
 v41:=Tryz.zeroValue249
 t44:=Tryz.underlying252
 a44:=Tryz.isAgg252
 z44:=Tryz.sizeOf252
 v44:=Tryz.zeroValue252
 t46:=Tryz.underlying158
 a46:=Tryz.isAgg158
 z46:=Tryz.sizeOf158
 v46:=Tryz.zeroValue158
 t53:=Tryz.underlying283
 a53:=Tryz.isAgg283
 z53:=Tryz.sizeOf283
 v53:=Tryz.zeroValue283
 t57:=Tryz.underlying154
 a57:=Tryz.isAgg154
 z57:=Tryz.sizeOf154
 v57:=Tryz.zeroValue154
 t63:=Tryz.underlying309
 a63:=Tryz.isAgg309
 z63:=Tryz.sizeOf309
 v63:=Tryz.zeroValue309
 t64:=Tryz.underlying310
 a64:=Tryz.isAgg310
 z64:=Tryz.sizeOf310
 v64:=Tryz.zeroValue310}
def Tryz.sorted34_ren:Go.Shelf.Ren:=⟨fun|6=>34|8=>76|9=>77|11=>124|13=>126|12=>125|23=>178|24=>179|14=>169|15=>170|16=>171|17=>172|18=>173|19=>174|20=>175|21=>176|22=>177|25=>202|26=>203|27=>204|28=>205|29=>206|30=>207|31=>243|n=>n,fun|26=>9|28=>94|24=>51|0=>0|3=>3|37=>174|48=>252|50=>158|4=>4|40=>245|39=>244|45=>249|5=>5|9=>9|51=>283|55=>154|57=>309|58=>310|33=>128|n=>n,fun|n=>n⟩
theorem Tryz.sorted34:Go.Proofs.SlLaysZ.n6 Tryz.prog Tryz.sorted34_ren:={
 mixed:=by kernel_rfl
 f6:=⟨Tryz.f34.name,by decide,Tryz.func34.trans (Ze some (by kernel_rfl))⟩
 f8:=⟨Tryz.f76.name,by decide,Tryz.func76.trans (Ze some (by kernel_rfl))⟩
 f11:=⟨Tryz.f124.name,by decide,Tryz.func124.trans (Ze some (by kernel_rfl))⟩
 t0:=Tryz.underlying0
 a0:=Tryz.isAgg0
 z0:=Tryz.sizeOf0
 v0:=Tryz.zeroValue0
 t24:=Tryz.underlying51
 a24:=Tryz.isAgg51
 z24:=Tryz.sizeOf51
 v24:=Tryz.zeroValue51
 t26:=Tryz.underlying9
 a26:=Tryz.isAgg9
 z26:=Tryz.sizeOf9
 v26:=Tryz.zeroValue9
 t28:=Tryz.underlying94
 a28:=Tryz.isAgg94
 z28:=Tryz.sizeOf94
 v28:=Tryz.zeroValue94
 i26:=by kernel_rfl}
def Tryz.keys122_ren:Go.Shelf.Ren:=⟨fun|7=>122|10=>168|n=>n,fun|23=>96|26=>9|3=>4|28=>94|0=>0|27=>93|33=>128|4=>4|n=>n,fun|n=>n⟩
theorem Tryz.keys122:Go.Proofs.SlLaysZ.n7 Tryz.prog Tryz.keys122_ren:={
 mixed:=by kernel_rfl
 f7:=⟨Tryz.f122.name,by decide,Tryz.func122.trans (Ze some (by kernel_rfl))⟩
 f10:=⟨Tryz.f168.name,by decide,Tryz.func168.trans (Ze some (by kernel_rfl))⟩
 t0:=Tryz.underlying0
 a0:=Tryz.isAgg0
 z0:=Tryz.sizeOf0
 v0:=Tryz.zeroValue0
 t4:=Tryz.underlying4
 a4:=Tryz.isAgg4
 z4:=Tryz.sizeOf4
 v4:=Tryz.zeroValue4
 t23:=Tryz.underlying96
 a23:=Tryz.isAgg96
 z23:=Tryz.sizeOf96
 v23:=Tryz.zeroValue96
 t26:=Tryz.underlying9
 a26:=Tryz.isAgg9
 z26:=Tryz.sizeOf9
 v26:=Tryz.zeroValue9
 t27:=Tryz.underlying93
 a27:=Tryz.isAgg93
 z27:=Tryz.sizeOf93
 v27:=Tryz.zeroValue93
 t28:=Tryz.underlying94
 a28:=Tryz.isAgg94
 z28:=Tryz.sizeOf94
 v28:=Tryz.zeroValue94
 t33:=Tryz.underlying128
 a33:=Tryz.isAgg128
 z33:=Tryz.sizeOf128
 v33:=Tryz.zeroValue128}
def Tryz.keys35_ren:Go.Shelf.Ren:=⟨fun|7=>35|10=>78|n=>n,fun|23=>90|26=>9|3=>96|28=>94|0=>0|27=>93|33=>128|4=>4|n=>n,fun|n=>n⟩
theorem Tryz.keys35:Go.Proofs.SlLaysZ.n7 Tryz.prog Tryz.keys35_ren:={
 mixed:=by kernel_rfl
 f7:=⟨Tryz.f35.name,by decide,Tryz.func35.trans (Ze some (by kernel_rfl))⟩
 f10:=⟨Tryz.f78.name,by decide,Tryz.func78.trans (Ze some (by kernel_rfl))⟩
 t0:=Tryz.underlying0
 a0:=Tryz.isAgg0
 z0:=Tryz.sizeOf0
 v0:=Tryz.zeroValue0
 t4:=Tryz.underlying4
 a4:=Tryz.isAgg4
 z4:=Tryz.sizeOf4
 v4:=Tryz.zeroValue4
 t23:=Tryz.underlying90
 a23:=Tryz.isAgg90
 z23:=Tryz.sizeOf90
 v23:=Tryz.zeroValue90
 t26:=Tryz.underlying9
 a26:=Tryz.isAgg9
 z26:=Tryz.sizeOf9
 v26:=Tryz.zeroValue9
 t27:=Tryz.underlying93
 a27:=Tryz.isAgg93
 z27:=Tryz.sizeOf93
 v27:=Tryz.zeroValue93
 t28:=Tryz.underlying94
 a28:=Tryz.isAgg94
 z28:=Tryz.sizeOf94
 v28:=Tryz.zeroValue94
 t33:=Tryz.underlying128
 a33:=Tryz.isAgg128
 z33:=Tryz.sizeOf128
 v33:=Tryz.zeroValue128}
def Tryz.del74_ren:Go.Shelf.Ren:=⟨fun|5=>74|n=>n,fun|23=>96|26=>9|24=>4|27=>140|0=>0|4=>4|n=>n,fun|n=>n⟩
theorem Tryz.del74:Go.Proofs.SlLaysDf.n5 Tryz.prog Tryz.del74_ren:={
 mixed:=by kernel_rfl
 f5:=⟨Tryz.f74.name,by decide,Tryz.func74.trans (Ze some (by kernel_rfl))⟩
 t0:=Tryz.underlying0
 a0:=Tryz.isAgg0
 z0:=Tryz.sizeOf0
 v0:=Tryz.zeroValue0
 t4:=Tryz.underlying4
 a4:=Tryz.isAgg4
 z4:=Tryz.sizeOf4
 v4:=Tryz.zeroValue4
 t23:=Tryz.underlying96
 a23:=Tryz.isAgg96
 z23:=Tryz.sizeOf96
 v23:=Tryz.zeroValue96
 a24:=Tryz.isAgg4
 z24:=Tryz.sizeOf4
 a26:=Tryz.isAgg9
 z26:=Tryz.sizeOf9
 t27:=Tryz.underlying140
 a27:=Tryz.isAgg140
 z27:=Tryz.sizeOf140
 v27:=Tryz.zeroValue140}
end Go.Proofs
namespace Go.Proofs
open Go.RowKit Go.Maps Go.Sort Go.Shelf
theorem Tryz.sorts34(m:Nat):AnyZ.SortsIn Tryz.prog Tryz.sorted34_ren Fence.wide m:=
 ⟨fun kW off cap ss W hH aex aY=>callsIn_wide.2 (AnyM.slices_Sort_string Tryz.sort77 kW off cap ss W hH aex aY),
  fun p cap W=>callsIn_wide.2 (AnyM.slices_Sort_string_none Tryz.sort77 p cap W)⟩
theorem Tryz.maps_Keys_35(mb:Option Nat)(W:World):CallsIn Fence.wide 5 Tryz.prog 35 #[.map mb] W fun e w'=>e= .returned (.func (.func 78) #[] #[.pointer (some ⟨W.heap.size,0,none⟩)])∧w'=W.alloc (.cells #[.map mb] 90):=
 AnyZ.keys_in Tryz.keys35 Fence.wide 5 trivial rfl mb W
set_option maxHeartbeats 1000000 in
theorem Tryz.slices_Sorted_keys_34_35{H:Type}(b nn:Nat)(D0:DataW H)(R:Value→Option (DataW H×List MemPlace))(w:World)(dY:w.ownsMap Tryz.prog 9 R b nn D0)(rV:Maps.size D0≤maxLen)(JY:Maps.size D0 * 16≤140737488355328):
  CallsIn Fence.wide 5 Tryz.prog 34 #[.func (.func 78) #[] #[.pointer (some ⟨w.heap.size,0,none⟩)]] (w.alloc (.cells #[.map (some b)] 90)) fun e w'=>∃ (v:Value) (ss:List (List UInt8)),e= .returned v∧ss.Perm (strKeys D0)∧
   w'.ownsRow (w.alloc (.cells #[.map (some b)] 90)).heap.size 9 1 v ss.length ((ss.mergeSort (fun x y=>decide (x≤y))).map encStr)∧(v= .slice none 0 0↔ss=[])∧Below (w.alloc (.cells #[.map (some b)] 90)).heap.size (w.alloc (.cells #[.map (some b)] 90)) w':=by
 have mP:=dY.lt
 have KJ:SeqGives Fence.wide 2 Tryz.prog 78 #[.pointer (some ⟨w.heap.size,0,none⟩)] encStr (fun ss=>ss.Perm (strKeys D0)) (Maps.size D0) (w.alloc (.cells #[.map (some b)] 90)):=
  AnyZ.keys_gives (ρ:=Tryz.keys35_ren) {Tryz.keys35 with} Fence.wide _ trivial rfl (by omega) w.heap.size b nn D0 _ (by simp) (by simp) (by
   obtain⟨es,clock,hb,Ft,hs,hD⟩:=dY
   exact⟨es,clock,(Below.heap_alloc _ _ b mP).trans hb,Ft,hs,hD⟩)
 exact AnyZ.sorted_in Tryz.sorted34 Fence.wide 5 trivial trivial trivial trivial rfl (by omega) (Tryz.sorts34 _) (enters_of Tryz.func77 (by kernel_rfl) rfl) 78 #[.pointer (some ⟨w.heap.size,0,none⟩)] trivial (enters_of Tryz.func78 (by kernel_rfl) rfl) _ _ rV JY _ KJ
theorem Tryz.maps_Keys_122(mb:Option Nat)(W:World):CallsIn Fence.wide 5 Tryz.prog 122 #[.map mb] W fun e w'=>e= .returned (.func (.func 168) #[] #[.pointer (some ⟨W.heap.size,0,none⟩)])∧w'=W.alloc (.cells #[.map mb] 96):=
 AnyZ.keys_in Tryz.keys122 Fence.wide 5 trivial rfl mb W
set_option maxHeartbeats 1000000 in
theorem Tryz.slices_Sorted_keys_34_122{H:Type}(b nn:Nat)(D0:DataW H)(R:Value→Option (DataW H×List MemPlace))(w:World)(dY:w.ownsMap Tryz.prog 9 R b nn D0)(rV:Maps.size D0≤maxLen)(JY:Maps.size D0 * 16≤140737488355328):
  CallsIn Fence.wide 5 Tryz.prog 34 #[.func (.func 168) #[] #[.pointer (some ⟨w.heap.size,0,none⟩)]] (w.alloc (.cells #[.map (some b)] 96)) fun e w'=>∃ (v:Value) (ss:List (List UInt8)),e= .returned v∧ss.Perm (strKeys D0)∧
   w'.ownsRow (w.alloc (.cells #[.map (some b)] 96)).heap.size 9 1 v ss.length ((ss.mergeSort (fun x y=>decide (x≤y))).map encStr)∧(v= .slice none 0 0↔ss=[])∧Below (w.alloc (.cells #[.map (some b)] 96)).heap.size (w.alloc (.cells #[.map (some b)] 96)) w':=by
 have mP:=dY.lt
 have KJ:SeqGives Fence.wide 2 Tryz.prog 168 #[.pointer (some ⟨w.heap.size,0,none⟩)] encStr (fun ss=>ss.Perm (strKeys D0)) (Maps.size D0) (w.alloc (.cells #[.map (some b)] 96)):=
  AnyZ.keys_gives (ρ:=Tryz.keys122_ren) {Tryz.keys122 with} Fence.wide _ trivial rfl (by omega) w.heap.size b nn D0 _ (by simp) (by simp) (by
   obtain⟨es,clock,hb,Ft,hs,hD⟩:=dY
   exact⟨es,clock,(Below.heap_alloc _ _ b mP).trans hb,Ft,hs,hD⟩)
 exact AnyZ.sorted_in Tryz.sorted34 Fence.wide 5 trivial trivial trivial trivial rfl (by omega) (Tryz.sorts34 _) (enters_of Tryz.func77 (by kernel_rfl) rfl) 168 #[.pointer (some ⟨w.heap.size,0,none⟩)] trivial (enters_of Tryz.func168 (by kernel_rfl) rfl) _ _ rV JY _ KJ
end Go.Proofs
namespace Go.Proofs
open Go.Shelf
def Tryz.laysNm216_ren:Go.Shelf.Ren:=⟨fun|16=>123|n=>n,fun|24=>51|9=>9|4=>4|n=>n,fun|n=>n⟩
theorem Tryz.laysNm216:Go.Proofs.Lays2.n16 Tryz.prog Tryz.laysNm216_ren:={
 mixed:=by kernel_rfl
 f16:=Tryz.func123.trans (Ze some (by kernel_rfl))
 t4:=Tryz.underlying4
 a4:=Tryz.isAgg4
 z4:=Tryz.sizeOf4
 v4:=Tryz.zeroValue4
 t9:=Tryz.underlying9
 a9:=Tryz.isAgg9
 z9:=Tryz.sizeOf9
 v9:=Tryz.zeroValue9
 t24:=Tryz.underlying51
 a24:=Tryz.isAgg51
 z24:=Tryz.sizeOf51
 v24:=Tryz.zeroValue51
 i9:=by kernel_rfl}
open Go.RowKit Go.Lib in
theorem Tryz.slices_Clone_string(b off n c:Nat)(zs:List ByteArray)(w:World)(hz:n≤zs.length)(nN:n * 16≤140737488355328)(hc:∀ j,j<zs.length→w.cell? ⟨b,off+j,none⟩=some (.string (zs.getD j ByteArray.empty))):
  Calls Tryz.prog 123 #[.slice (some ⟨b,off,none⟩) n c] w fun e w'=>∃ v',e= .returned v'∧w'.ownsRow w.heap.size 9 1 v' n ((zs.take n).map (Value.string))∧v'≠.slice none 0 0∧Below w.heap.size w w':=Any.slices_Clone_string Tryz.laysNm216 b off n c zs w hz nN hc
end Go.Proofs
