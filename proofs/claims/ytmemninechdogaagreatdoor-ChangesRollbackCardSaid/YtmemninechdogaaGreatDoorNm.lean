import Derived.Test.YtmemninechdogaaGreatDoorSet
import Derived.Shelf.SlIter.Nil
import Derived.Shelf.SortM.Plain
import Derived.Shelf.SortM.SortNone
import Derived.Shelf.SlMaps.DeleteFunc
import Derived.Shelf.Slices.Clone
set_option linter.all false
namespace Go.Tb
open Go.RowKit
def names(w:World)(e:TypeId)(lo:Nat)(v:Value)(L:List ByteArray):Prop:=
 ∃a cap,v= .slice a L.length cap/\L.length<=cap/\cap<=maxLen/\
  (0<cap->∃g off cur,a=some ⟨g,off,none⟩/\lo<=g/\w.heap[g]? =some (.cells cur e (0,0))/\off+cap<=cur.size/\∀j (hj:j<L.length),cur[off+j]? =some (.string L[j]))
structure za(lo:Nat)(w w':World):Prop where
 os:w'.os=w.os
 tape:w'.tape=w.tape
 output:w'.output=w.output
 size:w.heap.size<=w'.heap.size
 below:∀k,k<lo->k<w.heap.size->w'.heap[k]? =w.heap[k]?
 other:∀k,k<w.heap.size->(∀cs t f,w.heap[k]?≠some (.cells cs t f))->w'.heap[k]? =w.heap[k]?
theorem dt.qW{w w':World}{lo:Nat}{P:Program}{k:TypeId}{R:Value->Option (DataW Unit×List MemPlace)}{b:Nat}{L:List ByteArray}{f:ByteArray->DataW Unit}(h:dt w P k R b L f)(hc:za lo w w'):dt w' P k R b L f:=
 h.block (hc.other b h.lt fun cs t fr e=>by obtain⟨es,c,h⟩:=h.isMap;grind)
theorem fW.qW{w w':World}{lo:Nat}{P:Program}{k:TypeId}{R:Value->Option (DataW Unit×List MemPlace)}{b r:Nat}{L:List ByteArray}{f:ByteArray->DataW Unit}{left:ByteArray->Prop}{bG:Nat}(h:fW w P k R b r L f left bG)(hc:za lo w w'):fW w' P k R b r L f left bG:=by
 have hb:=h.dt;obtain⟨x,y,z,u,hr⟩:=h.iter;have e1:w'.heap[b]? =w.heap[b]? :=hc.other b hb.lt fun cs t fr e=>by obtain⟨es,c,h⟩:=hb.isMap;grind
 have e2:w'.heap[r]? =w.heap[r]? :=hc.other r (ZW.1 hr).1 fun cs t fr e=>by grind
 obtain⟨h1,h2,D,lf,⟨es,clock,since,seen,c0,g1,g2,g3,g4,g5,g6⟩,h4,h5,h6⟩:=h;exact⟨h1,h2,D,lf,⟨es,clock,since,seen,c0,e1.trans g1,g2,g3,g4,e2.trans g5,g6⟩,h4,h5,h6⟩
theorem names.R3{w:World}{e:TypeId}{base:Nat}{v:Value}{L:List ByteArray}(h:w.ownsRow base e 1 v L.length (L.map .string)):names w e base v L:=by
 obtain⟨h1,h2⟩:=h;rcases h2 with⟨rfl,hn⟩|⟨g,cap,cur,rfl,hb,hg,hc,hm,hs,ht⟩
 .exact⟨none,0,by rw[hn],by omega,by simp,fun h=>absurd h (by omega)⟩
 .refine⟨_,cap,rfl,hc,hm,fun _=>⟨g,0,cur,rfl,hb,hg,by omega,fun j hj=>?_⟩⟩;have e1:=Zk (fun l=>l[j]?) ht;grind
theorem names.mono{w:World}{e:TypeId}{lo J2:Nat}{v:Value}{L:List ByteArray}(h:names w e lo v L)(hl:J2<=lo):names w e J2 v L:=by obtain⟨a,cap,rfl,h1,h2,h3⟩:=h;exact⟨a,cap,rfl,h1,h2,fun hc=>by obtain⟨g,off,cur,g1,g2,g3⟩:=h3 hc;exact⟨g,off,cur,g1,ZD hl g2,g3⟩⟩
theorem names.len{w:World}{e:TypeId}{lo:Nat}{v:Value}{L:List ByteArray}(h:names w e lo v L):L.length<=maxLen:=by obtain⟨a,cap,rfl,h1,h2,h3⟩:=h;omega
theorem names.aH{w w':World}{e:TypeId}{lo:Nat}{v:Value}{L:List ByteArray}(h:names w e lo v L)(hk:∀(g:Nat) (cur:Array Value) (t:TypeId) (f:Nat×Nat),w.heap[g]? =some (Obj.cells cur t f)->w'.heap[g]? =w.heap[g]?):names w' e lo v L:=by obtain⟨a,cap,rfl,h1,h2,h3⟩:=h;exact⟨a,cap,rfl,h1,h2,fun hc=>by obtain⟨g,off,cur,g1,g2,g3,g4⟩:=h3 hc;exact⟨g,off,cur,g1,g2,(hk g _ _ _ g3).trans g3,g4⟩⟩
theorem names.alloc{w:World}{e:TypeId}{lo:Nat}{v:Value}{L:List ByteArray}(h:names w e lo v L)(o:Obj):names (w.alloc o) e lo v L:=
 h.aH fun g cur t f hg=>heap_alloc_old w o (ZW.1 hg).1
theorem names.grown{w w':World}{e:TypeId}{lo b:Nat}{v:Value}{L:List ByteArray}(h:names w e lo v L)(hg:w.grownBy w' (some b))(hb:∀cs t f,w.heap[b]?≠some (.cells cs t f)):names w' e lo v L:=
 h.aH fun g cur t f vH=>hg.block g (ZW.1 vH).1 fun e1=>by grind
theorem names.new{w w':World}{e:TypeId}{lo:Nat}{v:Value}{L:List ByteArray}(h:names w e lo v L)(hg:w.grownBy w' none):names w' e lo v L:=
 h.aH fun g cur t f vH=>hg.block g (ZW.1 vH).1 (by simp)
theorem pO{w:World}{g off:Nat}{cur:Array Value}{t:TypeId}{f:Nat×Nat}(h:w.heap[g]? =some (Obj.cells cur t f)):w.cell? ⟨g,off,none⟩=cur[off]? :=by simp[World.cell?,h]
theorem names.head{w:World}{e:TypeId}{lo:Nat}{v:Value}{s:ByteArray}{L:List ByteArray}(h:names w e lo v (s::L)):∃g off cap,v= .slice (some ⟨g,off,none⟩) (L.length+1) cap/\w.cell? ⟨g,off,none⟩=some (.string s):=by obtain⟨a,cap,rfl,h1,h2,h3⟩:=h;simp at h1;obtain⟨g,off,cur,rfl,g2,g3,g4,g5⟩:=h3 (by omega);refine⟨g,off,cap,by simp,?_⟩;have:=g5 0 (by simp);rw[pO g3];grind
theorem names.cell{w:World}{e:TypeId}{lo:Nat}{v:Value}{L:List ByteArray}(h:names w e lo v L){i:Nat}(hi:i<L.length):∃g off cap,v= .slice (some ⟨g,off,none⟩) L.length cap/\w.cell? ⟨g,off+i,none⟩=some (.string L[i]):=by obtain⟨a,cap,rfl,h1,h2,h3⟩:=h;obtain⟨g,off,cur,rfl,g2,g3,g4,g5⟩:=h3 (by omega);exact⟨g,off,cap,rfl,by rw[pO g3];grind⟩
theorem names.shape{w:World}{e:TypeId}{lo:Nat}{v:Value}{L:List ByteArray}(h:names w e lo v L):∃a cap,v= .slice a L.length cap:=by obtain⟨a,cap,rfl,_⟩:=h;grind
section
variable {P:Program}{ops:Array Oper}{rest:List Oper}{o:Oper}{a:Act}{Q:Exit->Act->World->Prop}
end
end Go.Tb
namespace Go.Proofs
open Go.Shelf
def Tryz.sort191_ren:Go.Shelf.Ren:=⟨fun|6=>191|8=>243|9=>242|19=>300|20=>252|21=>291|22=>292|23=>293|24=>294|25=>295|26=>296|27=>297|28=>298|29=>299|36=>337|31=>338|32=>339|37=>340|38=>341|39=>342|41=>363|n=>n,fun|27=>85|29=>9|3=>3|32=>176|26=>85|0=>0|44=>316|46=>56|4=>4|36=>342|35=>341|41=>246|5=>5|9=>9|53=>366|57=>157|63=>383|64=>384|n=>n,fun|n=>n⟩
theorem Tryz.sort191:Go.Proofs.SlLaysM.n6 Tryz.prog Tryz.sort191_ren:={
 mixed:=by kernel_rfl
 f6:=⟨Tryz.f191.name,by decide,Tryz.func191.trans (Zk some (by kernel_rfl))⟩
 f8:=Tryz.func243.trans (Zk some (by kernel_rfl))
 f9:=⟨Tryz.f242.name,by decide,Tryz.func242.trans (Zk some (by kernel_rfl))⟩
 f19:=Tryz.func300.trans (Zk some (by kernel_rfl))
 f20:=Tryz.func252.trans (Zk some (by kernel_rfl))
 f21:=⟨Tryz.f291.name,by decide,Tryz.func291.trans (Zk some (by kernel_rfl))⟩
 f22:=⟨Tryz.f292.name,by decide,Tryz.func292.trans (Zk some (by kernel_rfl))⟩
 f23:=⟨Tryz.f293.name,by decide,Tryz.func293.trans (Zk some (by kernel_rfl))⟩
 f24:=⟨Tryz.f294.name,by decide,Tryz.func294.trans (Zk some (by kernel_rfl))⟩
 f25:=⟨Tryz.f295.name,by decide,Tryz.func295.trans (Zk some (by kernel_rfl))⟩
 f26:=⟨Tryz.f296.name,by decide,Tryz.func296.trans (Zk some (by kernel_rfl))⟩
 f27:=⟨Tryz.f297.name,by decide,Tryz.func297.trans (Zk some (by kernel_rfl))⟩
 f28:=⟨Tryz.f298.name,by decide,Tryz.func298.trans (Zk some (by kernel_rfl))⟩
 f29:=⟨Tryz.f299.name,by decide,Tryz.func299.trans (Zk some (by kernel_rfl))⟩
 f31:=Tryz.func338.trans (Zk some (by kernel_rfl))
 f32:=Tryz.func339.trans (Zk some (by kernel_rfl))
 f36:=⟨Tryz.f337.name,by decide,Tryz.func337.trans (Zk some (by kernel_rfl))⟩
 f37:=⟨Tryz.f340.name,by decide,Tryz.func340.trans (Zk some (by kernel_rfl))⟩
 f38:=⟨Tryz.f341.name,by decide,Tryz.func341.trans (Zk some (by kernel_rfl))⟩
 f39:=⟨Tryz.f342.name,by decide,Tryz.func342.trans (Zk some (by kernel_rfl))⟩
 f41:=⟨Tryz.f363.name,by decide,Tryz.func363.trans (Zk some (by kernel_rfl))⟩
 t0:=Tryz.underlying0
 a0:=Tryz.isAgg0
 z0:=Tryz.sizeOf0
 v0:=Tryz.zeroValue0
 t3:=Tryz.underlying3
 a3:=Tryz.isAgg3
 z3:=Tryz.sizeOf3
 v3:=Tryz.zeroValue3
 t4:=Tryz.underlying4
 a4:=Tryz.isAgg4
 z4:=Tryz.sizeOf4
 v4:=Tryz.zeroValue4
 t5:=Tryz.underlying5
 a5:=Tryz.isAgg5
 z5:=Tryz.sizeOf5
 v5:=Tryz.zeroValue5
 t9:=Tryz.underlying9
 a9:=Tryz.isAgg9
 z9:=Tryz.sizeOf9
 v9:=Tryz.zeroValue9
 t26:=Tryz.underlying85
 a26:=Tryz.isAgg85
 z26:=Tryz.sizeOf85
 v26:=Tryz.zeroValue85
 t27:=Tryz.underlying85
 a27:=Tryz.isAgg85
 z27:=Tryz.sizeOf85
 v27:=Tryz.zeroValue85
 t29:=Tryz.underlying9
 a29:=Tryz.isAgg9
 z29:=Tryz.sizeOf9
 v29:=Tryz.zeroValue9
 t32:=Tryz.underlying176
 a32:=Tryz.isAgg176
 z32:=Tryz.sizeOf176
 v32:=Tryz.zeroValue176
 t35:=Tryz.underlying341
 a35:=Tryz.isAgg341
 z35:=Tryz.sizeOf341
 v35:=Tryz.zeroValue341
 t36:=Tryz.underlying342
 a36:=Tryz.isAgg342
 z36:=Tryz.sizeOf342
 v36:=Tryz.zeroValue342
 t41:=Tryz.underlying246
 a41:=Tryz.isAgg246
 z41:=Tryz.sizeOf246
 v41:=Tryz.zeroValue246
 t44:=Tryz.underlying316
 a44:=Tryz.isAgg316
 z44:=Tryz.sizeOf316
 v44:=Tryz.zeroValue316
 t46:=Tryz.underlying56
 a46:=Tryz.isAgg56
 z46:=Tryz.sizeOf56
 v46:=Tryz.zeroValue56
 t53:=Tryz.underlying366
 a53:=Tryz.isAgg366
 z53:=Tryz.sizeOf366
 v53:=Tryz.zeroValue366
 t57:=Tryz.underlying157
 a57:=Tryz.isAgg157
 z57:=Tryz.sizeOf157
 v57:=Tryz.zeroValue157
 t63:=Tryz.underlying383
 a63:=Tryz.isAgg383
 z63:=Tryz.sizeOf383
 v63:=Tryz.zeroValue383
 t64:=Tryz.underlying384
 a64:=Tryz.isAgg384
 z64:=Tryz.sizeOf384
 v64:=Tryz.zeroValue384}
def Tryz.sorted137_ren:Go.Shelf.Ren:=⟨fun|6=>137|8=>190|9=>191|11=>241|13=>243|12=>242|23=>300|24=>252|14=>291|15=>292|16=>293|17=>294|18=>295|19=>296|20=>297|21=>298|22=>299|25=>337|26=>338|27=>339|28=>340|29=>341|30=>342|31=>363|n=>n,fun|26=>9|28=>208|24=>85|0=>0|3=>3|37=>176|48=>316|50=>56|4=>4|40=>342|39=>341|45=>246|5=>5|9=>9|51=>366|55=>157|57=>383|58=>384|33=>135|n=>n,fun|n=>n⟩
theorem Tryz.sorted137:Go.Proofs.SlLaysZ.n6 Tryz.prog Tryz.sorted137_ren:={
 mixed:=by kernel_rfl
 f6:=⟨Tryz.f137.name,by decide,Tryz.func137.trans (Zk some (by kernel_rfl))⟩
 f8:=⟨Tryz.f190.name,by decide,Tryz.func190.trans (Zk some (by kernel_rfl))⟩
 f11:=⟨Tryz.f241.name,by decide,Tryz.func241.trans (Zk some (by kernel_rfl))⟩
 t0:=Tryz.underlying0
 a0:=Tryz.isAgg0
 z0:=Tryz.sizeOf0
 v0:=Tryz.zeroValue0
 t24:=Tryz.underlying85
 a24:=Tryz.isAgg85
 z24:=Tryz.sizeOf85
 v24:=Tryz.zeroValue85
 t26:=Tryz.underlying9
 a26:=Tryz.isAgg9
 z26:=Tryz.sizeOf9
 v26:=Tryz.zeroValue9
 t28:=Tryz.underlying208
 a28:=Tryz.isAgg208
 z28:=Tryz.sizeOf208
 v28:=Tryz.zeroValue208
 i26:=by kernel_rfl}
def Tryz.keys138_ren:Go.Shelf.Ren:=⟨fun|7=>138|10=>192|n=>n,fun|23=>204|26=>9|3=>210|28=>208|0=>0|27=>207|33=>135|4=>4|n=>n,fun|n=>n⟩
theorem Tryz.keys138:Go.Proofs.SlLaysZ.n7 Tryz.prog Tryz.keys138_ren:={
 mixed:=by kernel_rfl
 f7:=⟨Tryz.f138.name,by decide,Tryz.func138.trans (Zk some (by kernel_rfl))⟩
 f10:=⟨Tryz.f192.name,by decide,Tryz.func192.trans (Zk some (by kernel_rfl))⟩
 t0:=Tryz.underlying0
 a0:=Tryz.isAgg0
 z0:=Tryz.sizeOf0
 v0:=Tryz.zeroValue0
 t4:=Tryz.underlying4
 a4:=Tryz.isAgg4
 z4:=Tryz.sizeOf4
 v4:=Tryz.zeroValue4
 t23:=Tryz.underlying204
 a23:=Tryz.isAgg204
 z23:=Tryz.sizeOf204
 v23:=Tryz.zeroValue204
 t26:=Tryz.underlying9
 a26:=Tryz.isAgg9
 z26:=Tryz.sizeOf9
 v26:=Tryz.zeroValue9
 t27:=Tryz.underlying207
 a27:=Tryz.isAgg207
 z27:=Tryz.sizeOf207
 v27:=Tryz.zeroValue207
 t28:=Tryz.underlying208
 a28:=Tryz.isAgg208
 z28:=Tryz.sizeOf208
 v28:=Tryz.zeroValue208
 t33:=Tryz.underlying135
 a33:=Tryz.isAgg135
 z33:=Tryz.sizeOf135
 v33:=Tryz.zeroValue135}
def Tryz.keys193_ren:Go.Shelf.Ren:=⟨fun|7=>193|10=>244|n=>n,fun|23=>210|26=>9|3=>4|28=>208|0=>0|27=>207|33=>135|4=>4|n=>n,fun|n=>n⟩
theorem Tryz.keys193:Go.Proofs.SlLaysZ.n7 Tryz.prog Tryz.keys193_ren:={
 mixed:=by kernel_rfl
 f7:=⟨Tryz.f193.name,by decide,Tryz.func193.trans (Zk some (by kernel_rfl))⟩
 f10:=⟨Tryz.f244.name,by decide,Tryz.func244.trans (Zk some (by kernel_rfl))⟩
 t0:=Tryz.underlying0
 a0:=Tryz.isAgg0
 z0:=Tryz.sizeOf0
 v0:=Tryz.zeroValue0
 t4:=Tryz.underlying4
 a4:=Tryz.isAgg4
 z4:=Tryz.sizeOf4
 v4:=Tryz.zeroValue4
 t23:=Tryz.underlying210
 a23:=Tryz.isAgg210
 z23:=Tryz.sizeOf210
 v23:=Tryz.zeroValue210
 t26:=Tryz.underlying9
 a26:=Tryz.isAgg9
 z26:=Tryz.sizeOf9
 v26:=Tryz.zeroValue9
 t27:=Tryz.underlying207
 a27:=Tryz.isAgg207
 z27:=Tryz.sizeOf207
 v27:=Tryz.zeroValue207
 t28:=Tryz.underlying208
 a28:=Tryz.isAgg208
 z28:=Tryz.sizeOf208
 v28:=Tryz.zeroValue208
 t33:=Tryz.underlying135
 a33:=Tryz.isAgg135
 z33:=Tryz.sizeOf135
 v33:=Tryz.zeroValue135}
def Tryz.del188_ren:Go.Shelf.Ren:=⟨fun|5=>188|n=>n,fun|23=>210|26=>9|24=>4|27=>270|0=>0|4=>4|n=>n,fun|n=>n⟩
theorem Tryz.del188:Go.Proofs.SlLaysDf.n5 Tryz.prog Tryz.del188_ren:={
 mixed:=by kernel_rfl
 f5:=⟨Tryz.f188.name,by decide,Tryz.func188.trans (Zk some (by kernel_rfl))⟩
 t0:=Tryz.underlying0
 a0:=Tryz.isAgg0
 z0:=Tryz.sizeOf0
 v0:=Tryz.zeroValue0
 t4:=Tryz.underlying4
 a4:=Tryz.isAgg4
 z4:=Tryz.sizeOf4
 v4:=Tryz.zeroValue4
 t23:=Tryz.underlying210
 a23:=Tryz.isAgg210
 z23:=Tryz.sizeOf210
 v23:=Tryz.zeroValue210
 a24:=Tryz.isAgg4
 z24:=Tryz.sizeOf4
 a26:=Tryz.isAgg9
 z26:=Tryz.sizeOf9
 t27:=Tryz.underlying270
 a27:=Tryz.isAgg270
 z27:=Tryz.sizeOf270
 v27:=Tryz.zeroValue270}
end Go.Proofs
namespace Go.Proofs
open Go.RowKit Go.Maps Go.Sort Go.Shelf
theorem Tryz.sorts137(m:Nat):AnyZ.SortsIn Tryz.prog Tryz.sorted137_ren Fence.wide m:=
 ⟨fun kB off cap ss W hH adE bl=>callsIn_wide.2 (AnyM.slices_Sort_string Tryz.sort191 kB off cap ss W hH adE bl),
  fun p cap W=>callsIn_wide.2 (AnyM.slices_Sort_string_none Tryz.sort191 p cap W)⟩
theorem Tryz.maps_Keys_138(mb:Option Nat)(W:World):CallsIn Fence.wide 5 Tryz.prog 138 #[.map mb] W fun e w'=>e= .returned (.func (.func 192) #[] #[.pointer (some ⟨W.heap.size,0,none⟩)])/\w'=W.alloc (.cells #[.map mb] 204):=
 AnyZ.keys_in Tryz.keys138 Fence.wide 5 trivial rfl mb W
set_option maxHeartbeats 1000000 in
theorem Tryz.slices_Sorted_keys_137_138{H:Type}(b nn:Nat)(D0:DataW H)(R:Value->Option (DataW H×List MemPlace))(w:World)(dL:w.ownsMap Tryz.prog 9 R b nn D0)(rA:Maps.size D0<=maxLen)(IG:Maps.size D0*16<=140737488355328):
  CallsIn Fence.wide 5 Tryz.prog 137 #[.func (.func 192) #[] #[.pointer (some ⟨w.heap.size,0,none⟩)]] (w.alloc (.cells #[.map (some b)] 204)) fun e w'=>∃(v:Value) (ss:List (List UInt8)),e= .returned v/\ss.Perm (strKeys D0)/\
   w'.ownsRow (w.alloc (.cells #[.map (some b)] 204)).heap.size 9 1 v ss.length ((ss.mergeSort (fun x y=>decide (x<=y))).map encStr)/\(v= .slice none 0 0↔ss=[])/\Below (w.alloc (.cells #[.map (some b)] 204)).heap.size (w.alloc (.cells #[.map (some b)] 204)) w':=by
 have kJ:=dL.lt
 have Ju:SeqGives Fence.wide 2 Tryz.prog 192 #[.pointer (some ⟨w.heap.size,0,none⟩)] encStr (fun ss=>ss.Perm (strKeys D0)) (Maps.size D0) (w.alloc (.cells #[.map (some b)] 204)):=
  AnyZ.keys_gives (ρ:=Tryz.keys138_ren) {Tryz.keys138 with} Fence.wide _ trivial rfl (by omega) w.heap.size b nn D0 _ (by simp) (by simp) (by
   obtain⟨es,clock,hb,Ft,hs,hD⟩:=dL
   exact⟨es,clock,(Below.heap_alloc _ _ b kJ).trans hb,Ft,hs,hD⟩)
 exact AnyZ.sorted_in Tryz.sorted137 Fence.wide 5 trivial trivial trivial trivial rfl (by omega) (Tryz.sorts137 _) (enters_of Tryz.func191 (by kernel_rfl) rfl) 192 #[.pointer (some ⟨w.heap.size,0,none⟩)] trivial (enters_of Tryz.func192 (by kernel_rfl) rfl) _ _ rA IG _ Ju
theorem Tryz.maps_Keys_193(mb:Option Nat)(W:World):CallsIn Fence.wide 5 Tryz.prog 193 #[.map mb] W fun e w'=>e= .returned (.func (.func 244) #[] #[.pointer (some ⟨W.heap.size,0,none⟩)])/\w'=W.alloc (.cells #[.map mb] 210):=
 AnyZ.keys_in Tryz.keys193 Fence.wide 5 trivial rfl mb W
set_option maxHeartbeats 1000000 in
theorem Tryz.slices_Sorted_keys_137_193{H:Type}(b nn:Nat)(D0:DataW H)(R:Value->Option (DataW H×List MemPlace))(w:World)(dL:w.ownsMap Tryz.prog 9 R b nn D0)(rA:Maps.size D0<=maxLen)(IG:Maps.size D0*16<=140737488355328):
  CallsIn Fence.wide 5 Tryz.prog 137 #[.func (.func 244) #[] #[.pointer (some ⟨w.heap.size,0,none⟩)]] (w.alloc (.cells #[.map (some b)] 210)) fun e w'=>∃(v:Value) (ss:List (List UInt8)),e= .returned v/\ss.Perm (strKeys D0)/\
   w'.ownsRow (w.alloc (.cells #[.map (some b)] 210)).heap.size 9 1 v ss.length ((ss.mergeSort (fun x y=>decide (x<=y))).map encStr)/\(v= .slice none 0 0↔ss=[])/\Below (w.alloc (.cells #[.map (some b)] 210)).heap.size (w.alloc (.cells #[.map (some b)] 210)) w':=by
 have kJ:=dL.lt
 have Ju:SeqGives Fence.wide 2 Tryz.prog 244 #[.pointer (some ⟨w.heap.size,0,none⟩)] encStr (fun ss=>ss.Perm (strKeys D0)) (Maps.size D0) (w.alloc (.cells #[.map (some b)] 210)):=
  AnyZ.keys_gives (ρ:=Tryz.keys193_ren) {Tryz.keys193 with} Fence.wide _ trivial rfl (by omega) w.heap.size b nn D0 _ (by simp) (by simp) (by
   obtain⟨es,clock,hb,Ft,hs,hD⟩:=dL
   exact⟨es,clock,(Below.heap_alloc _ _ b kJ).trans hb,Ft,hs,hD⟩)
 exact AnyZ.sorted_in Tryz.sorted137 Fence.wide 5 trivial trivial trivial trivial rfl (by omega) (Tryz.sorts137 _) (enters_of Tryz.func191 (by kernel_rfl) rfl) 244 #[.pointer (some ⟨w.heap.size,0,none⟩)] trivial (enters_of Tryz.func244 (by kernel_rfl) rfl) _ _ rA IG _ Ju
end Go.Proofs
namespace Go.Proofs
open Go.Shelf
def Tryz.laysNm216_ren:Go.Shelf.Ren:=⟨fun|16=>194|n=>n,fun|24=>85|9=>9|4=>4|n=>n,fun|n=>n⟩
theorem Tryz.laysNm216:Go.Proofs.Lays2.n16 Tryz.prog Tryz.laysNm216_ren:={
 mixed:=by kernel_rfl
 f16:=Tryz.func194.trans (Zk some (by kernel_rfl))
 t4:=Tryz.underlying4
 a4:=Tryz.isAgg4
 z4:=Tryz.sizeOf4
 v4:=Tryz.zeroValue4
 t9:=Tryz.underlying9
 a9:=Tryz.isAgg9
 z9:=Tryz.sizeOf9
 v9:=Tryz.zeroValue9
 t24:=Tryz.underlying85
 a24:=Tryz.isAgg85
 z24:=Tryz.sizeOf85
 v24:=Tryz.zeroValue85
 i9:=by kernel_rfl}
open Go.RowKit Go.Lib in
theorem Tryz.slices_Clone_string(b off n c:Nat)(zs:List ByteArray)(w:World)(hz:n<=zs.length)(nF:n*16<=140737488355328)(hc:∀j,j<zs.length->w.cell? ⟨b,off+j,none⟩=some (.string (zs.getD j ByteArray.empty))):
  Calls Tryz.prog 194 #[.slice (some ⟨b,off,none⟩) n c] w fun e w'=>∃v',e= .returned v'/\w'.ownsRow w.heap.size 9 1 v' n ((zs.take n).map (Value.string))/\v'≠.slice none 0 0/\Below w.heap.size w w':=Any.slices_Clone_string Tryz.laysNm216 b off n c zs w hz nF hc
