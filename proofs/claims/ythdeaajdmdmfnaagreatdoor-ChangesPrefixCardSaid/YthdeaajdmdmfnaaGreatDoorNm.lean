/- Slices of names, in the walk's words: read at the head, cut at the head, grown by one. -/
import Derived.Test.YthdeaajdmdmfnaaGreatDoorSet
import Derived.Laws.AppendOwn
import Derived.Laws.Slices
import Derived.Shelf.SlIter.Nil
import Derived.Shelf.SortM.Plain
import Derived.Shelf.SortM.SortNone
import Derived.Shelf.SlMaps.DeleteFunc
import Derived.Test.YthdeaajdmdmfnaaGreatDoorChecked
import Derived.Shelf.Slices.Clone
import Derived.Test.YthdeaajdmdmfnaaGreatDoorSxX
set_option linter.unusedSimpArgs false
set_option linter.unusedVariables false
set_option linter.unusedSectionVars false
namespace Go.Tb
open Go.RowKit
def names(w:World)(e:TypeId)(lo:Nat)(v:Value)(L:List ByteArray):Prop:=
 ∃ a cap,v= .slice a L.length cap∧L.length≤cap∧cap≤maxLen∧
  (0<cap→∃ g off cur,a=some ⟨g,off,none⟩∧lo≤g∧w.heap[g]? =some (.cells cur e (0,0))∧off+cap≤cur.size∧∀ j (hj:j<L.length),cur[off+j]? =some (.string L[j]))
structure BC(lo:Nat)(w w':World):Prop where
 os:w'.os=w.os
 tape:w'.tape=w.tape
 output:w'.output=w.output
 size:w.heap.size≤w'.heap.size
 below:∀ k,k<lo→k<w.heap.size→w'.heap[k]? =w.heap[k]?
 other:∀ k,k<w.heap.size→(∀ cs t f,w.heap[k]?≠some (.cells cs t f))→w'.heap[k]? =w.heap[k]?
theorem dj.wV{w w':World}{lo:Nat}{P:Program}{k:TypeId}{R:Value→Option (DataW Unit×List MemPlace)}{b:Nat}{L:List ByteArray}{f:ByteArray→DataW Unit}(h:dj w P k R b L f)(hc:BC lo w w'):dj w' P k R b L f:=
 h.block (hc.other b h.lt fun cs t fr e=>by obtain⟨es,c,h⟩:=h.isMap;rw[h]at e;cases e)
theorem fS.wV{w w':World}{lo:Nat}{P:Program}{k:TypeId}{R:Value→Option (DataW Unit×List MemPlace)}{b r:Nat}{L:List ByteArray}{f:ByteArray→DataW Unit}{left:ByteArray→Prop}{bJ:Nat}(h:fS w P k R b r L f left bJ)(hc:BC lo w w'):fS w' P k R b r L f left bJ:=by
 have hb:=h.dj
 obtain⟨x,y,z,u,hr⟩:=h.iter
 have e1:w'.heap[b]? =w.heap[b]? :=hc.other b hb.lt fun cs t fr e=>by obtain⟨es,c,h⟩:=hb.isMap;rw[h]at e;cases e
 have e2:w'.heap[r]? =w.heap[r]? :=hc.other r (Z6.1 hr).1 fun cs t fr e=>by rw[hr]at e;cases e
 obtain⟨h1,h2,D,lf,⟨es,clock,since,seen,c0,g1,g2,g3,g4,g5,g6⟩,h4,h5,h6⟩:=h
 exact⟨h1,h2,D,lf,⟨es,clock,since,seen,c0,e1.trans g1,g2,g3,g4,e2.trans g5,g6⟩,h4,h5,h6⟩
theorem names.QW{w:World}{e:TypeId}{base:Nat}{v:Value}{L:List ByteArray}(h:w.ownsRow base e 1 v L.length (L.map .string)):names w e base v L:=by
 obtain⟨h1,h2⟩:=h
 rcases h2 with⟨rfl,hn⟩|⟨g,cap,cur,rfl,hb,hg,hc,hm,hs,ht⟩
 ·exact⟨none,0,by rw[hn],by omega,by simp,fun h=>absurd h (by omega)⟩
 ·refine⟨_,cap,rfl,hc,hm,fun _=>⟨g,0,cur,rfl,hb,hg,by omega,fun j hj=> ?_⟩⟩
  have e1:=Zd (fun l=>l[j]?) ht
  simp only[Yb,Y4,ZV hj,X2,Z1 hj,ZJ]at e1
  rw[ZH];simpa using e1
theorem names.mono{w:World}{e:TypeId}{lo JA:Nat}{v:Value}{L:List ByteArray}(h:names w e lo v L)(hl:JA≤lo):names w e JA v L:=by
 obtain⟨a,cap,rfl,h1,h2,h3⟩:=h
 exact⟨a,cap,rfl,h1,h2,fun hc=>by obtain⟨g,off,cur,g1,g2,g3⟩:=h3 hc;exact⟨g,off,cur,g1,ZI hl g2,g3⟩⟩
theorem names.len{w:World}{e:TypeId}{lo:Nat}{v:Value}{L:List ByteArray}(h:names w e lo v L):L.length≤maxLen:=by
 obtain⟨a,cap,rfl,h1,h2,h3⟩:=h;omega
theorem names.az{w w':World}{e:TypeId}{lo:Nat}{v:Value}{L:List ByteArray}(h:names w e lo v L)(hk:∀ (g:Nat) (cur:Array Value) (t:TypeId) (f:Nat×Nat),w.heap[g]? =some (Obj.cells cur t f)→w'.heap[g]? =w.heap[g]?):names w' e lo v L:=by
 obtain⟨a,cap,rfl,h1,h2,h3⟩:=h
 exact⟨a,cap,rfl,h1,h2,fun hc=>by obtain⟨g,off,cur,g1,g2,g3,g4⟩:=h3 hc;exact⟨g,off,cur,g1,g2,(hk g _ _ _ g3).trans g3,g4⟩⟩
theorem names.alloc{w:World}{e:TypeId}{lo:Nat}{v:Value}{L:List ByteArray}(h:names w e lo v L)(o:Obj):names (w.alloc o) e lo v L:=
 h.az fun g cur t f hg=>heap_alloc_old w o (Z6.1 hg).1
theorem names.grown{w w':World}{e:TypeId}{lo b:Nat}{v:Value}{L:List ByteArray}(h:names w e lo v L)(hg:w.grownBy w' (some b))(hb:∀ cs t f,w.heap[b]?≠some (.cells cs t f)):names w' e lo v L:=
 h.az fun g cur t f uU=>hg.block g (Z6.1 uU).1 fun e1=>by cases e1;exact hb _ _ _ uU
theorem names.new{w w':World}{e:TypeId}{lo:Nat}{v:Value}{L:List ByteArray}(h:names w e lo v L)(hg:w.grownBy w' none):names w' e lo v L:=
 h.az fun g cur t f uU=>hg.block g (Z6.1 uU).1 (by simp)
theorem qi{w:World}{g off:Nat}{cur:Array Value}{t:TypeId}{f:Nat×Nat}(h:w.heap[g]? =some (Obj.cells cur t f)):w.cell? ⟨g,off,none⟩=cur[off]? :=by
 simp[World.cell?,h]
theorem names.head{w:World}{e:TypeId}{lo:Nat}{v:Value}{s:ByteArray}{L:List ByteArray}(h:names w e lo v (s::L)):∃ g off cap,v= .slice (some ⟨g,off,none⟩) (L.length+1) cap∧w.cell? ⟨g,off,none⟩=some (.string s):=by
 obtain⟨a,cap,rfl,h1,h2,h3⟩:=h
 simp only[ZS]at h1
 obtain⟨g,off,cur,rfl,g2,g3,g4,g5⟩:=h3 (by omega)
 refine⟨g,off,cap,by simp,?_⟩
 have:=g5 0 (by simp)
 rw[qi g3];simpa using this
theorem names.cell{w:World}{e:TypeId}{lo:Nat}{v:Value}{L:List ByteArray}(h:names w e lo v L){i:Nat}(hi:i<L.length):∃ g off cap,v= .slice (some ⟨g,off,none⟩) L.length cap∧w.cell? ⟨g,off+i,none⟩=some (.string L[i]):=by
 obtain⟨a,cap,rfl,h1,h2,h3⟩:=h
 obtain⟨g,off,cur,rfl,g2,g3,g4,g5⟩:=h3 (by omega)
 exact⟨g,off,cap,rfl,by rw[qi g3];exact g5 i hi⟩
theorem names.shape{w:World}{e:TypeId}{lo:Nat}{v:Value}{L:List ByteArray}(h:names w e lo v L):∃ a cap,v= .slice a L.length cap:=by
 obtain⟨a,cap,rfl,_⟩:=h;exact⟨a,cap,rfl⟩
section
variable {P:Program}{ops:Array Oper}{rest:List Oper}{o:Oper}{a:Act}{Q:Exit→Act→World→Prop}
end
end Go.Tb
namespace Go.Proofs
open Go.Shelf
def Tryz.sort184_ren:Go.Shelf.Ren:=⟨fun|6=>184|8=>228|9=>227|19=>287|20=>288|21=>278|22=>279|23=>280|24=>281|25=>282|26=>283|27=>284|28=>285|29=>286|36=>327|31=>328|32=>329|37=>330|38=>331|39=>332|41=>361|n=>n,fun|27=>87|29=>9|3=>3|32=>163|26=>87|0=>0|44=>337|46=>147|4=>4|36=>331|35=>330|41=>235|5=>5|9=>9|53=>363|57=>143|63=>384|64=>385|n=>n,fun|n=>n⟩
theorem Tryz.sort184:Go.Proofs.SlLaysM.n6 Tryz.prog Tryz.sort184_ren:={
 mixed:=by kernel_rfl
 f6:=⟨Tryz.f184.name,by decide,Tryz.func184.trans (Zd some (by kernel_rfl))⟩
 f8:=Tryz.func228.trans (Zd some (by kernel_rfl))
 f9:=⟨Tryz.f227.name,by decide,Tryz.func227.trans (Zd some (by kernel_rfl))⟩
 f19:=Tryz.func287.trans (Zd some (by kernel_rfl))
 f20:=Tryz.func288.trans (Zd some (by kernel_rfl))
 f21:=⟨Tryz.f278.name,by decide,Tryz.func278.trans (Zd some (by kernel_rfl))⟩
 f22:=⟨Tryz.f279.name,by decide,Tryz.func279.trans (Zd some (by kernel_rfl))⟩
 f23:=⟨Tryz.f280.name,by decide,Tryz.func280.trans (Zd some (by kernel_rfl))⟩
 f24:=⟨Tryz.f281.name,by decide,Tryz.func281.trans (Zd some (by kernel_rfl))⟩
 f25:=⟨Tryz.f282.name,by decide,Tryz.func282.trans (Zd some (by kernel_rfl))⟩
 f26:=⟨Tryz.f283.name,by decide,Tryz.func283.trans (Zd some (by kernel_rfl))⟩
 f27:=⟨Tryz.f284.name,by decide,Tryz.func284.trans (Zd some (by kernel_rfl))⟩
 f28:=⟨Tryz.f285.name,by decide,Tryz.func285.trans (Zd some (by kernel_rfl))⟩
 f29:=⟨Tryz.f286.name,by decide,Tryz.func286.trans (Zd some (by kernel_rfl))⟩
 f31:=Tryz.func328.trans (Zd some (by kernel_rfl))
 f32:=Tryz.func329.trans (Zd some (by kernel_rfl))
 f36:=⟨Tryz.f327.name,by decide,Tryz.func327.trans (Zd some (by kernel_rfl))⟩
 f37:=⟨Tryz.f330.name,by decide,Tryz.func330.trans (Zd some (by kernel_rfl))⟩
 f38:=⟨Tryz.f331.name,by decide,Tryz.func331.trans (Zd some (by kernel_rfl))⟩
 f39:=⟨Tryz.f332.name,by decide,Tryz.func332.trans (Zd some (by kernel_rfl))⟩
 f41:=⟨Tryz.f361.name,by decide,Tryz.func361.trans (Zd some (by kernel_rfl))⟩
 t0:=Tryz.underlying0
 a0:=Tryz.isAgg0
 z0:=Tryz.sizeOf0
 v0:=Tryz.zeroValue0
 t3:=Tryz.underlying3
 a3:=Tryz.isAgg3
 z3:=Tryz.sizeOf3
 v3:=Tryz.zeroValue3
 t4:=Tryz.underlying4
 a4:=Tryz.isAgg4
 z4:=Tryz.sizeOf4
 v4:=Tryz.zeroValue4
 t5:=Tryz.underlying5
 a5:=Tryz.isAgg5
 z5:=Tryz.sizeOf5
 v5:=Tryz.zeroValue5
 t9:=Tryz.underlying9
 a9:=Tryz.isAgg9
 z9:=Tryz.sizeOf9
 v9:=Tryz.zeroValue9
 t26:=Tryz.underlying87
 a26:=Tryz.isAgg87
 z26:=Tryz.sizeOf87
 v26:=Tryz.zeroValue87
 t27:=Tryz.underlying87
 a27:=Tryz.isAgg87
 z27:=Tryz.sizeOf87
 v27:=Tryz.zeroValue87
 t29:=Tryz.underlying9
 a29:=Tryz.isAgg9
 z29:=Tryz.sizeOf9
 v29:=Tryz.zeroValue9
 t32:=Tryz.underlying163
 a32:=Tryz.isAgg163
 z32:=Tryz.sizeOf163
 v32:=Tryz.zeroValue163
 t35:=Tryz.underlying330
 a35:=Tryz.isAgg330
 z35:=Tryz.sizeOf330
 v35:=Tryz.zeroValue330
 t36:=Tryz.underlying331
 a36:=Tryz.isAgg331
 z36:=Tryz.sizeOf331
 v36:=Tryz.zeroValue331
 t41:=Tryz.underlying235
 a41:=Tryz.isAgg235
 z41:=Tryz.sizeOf235
 v41:=Tryz.zeroValue235
 t44:=Tryz.underlying337
 a44:=Tryz.isAgg337
 z44:=Tryz.sizeOf337
 v44:=Tryz.zeroValue337
 t46:=Tryz.underlying147
 a46:=Tryz.isAgg147
 z46:=Tryz.sizeOf147
 v46:=Tryz.zeroValue147
 t53:=Tryz.underlying363
 a53:=Tryz.isAgg363
 z53:=Tryz.sizeOf363
 v53:=Tryz.zeroValue363
 t57:=Tryz.underlying143
 a57:=Tryz.isAgg143
 z57:=Tryz.sizeOf143
 v57:=Tryz.zeroValue143
 t63:=Tryz.underlying384
 a63:=Tryz.isAgg384
 z63:=Tryz.sizeOf384
 v63:=Tryz.zeroValue384
 t64:=Tryz.underlying385
 a64:=Tryz.isAgg385
 z64:=Tryz.sizeOf385
 v64:=Tryz.zeroValue385}
def Tryz.sorted130_ren:Go.Shelf.Ren:=⟨fun|6=>130|8=>183|9=>184|11=>226|13=>228|12=>227|23=>287|24=>288|14=>278|15=>279|16=>280|17=>281|18=>282|19=>283|20=>284|21=>285|22=>286|25=>327|26=>328|27=>329|28=>330|29=>331|30=>332|31=>361|n=>n,fun|26=>9|28=>198|24=>87|0=>0|3=>3|37=>163|48=>337|50=>147|4=>4|40=>331|39=>330|45=>235|5=>5|9=>9|51=>363|55=>143|57=>384|58=>385|33=>127|n=>n,fun|n=>n⟩
theorem Tryz.sorted130:Go.Proofs.SlLaysZ.n6 Tryz.prog Tryz.sorted130_ren:={
 mixed:=by kernel_rfl
 f6:=⟨Tryz.f130.name,by decide,Tryz.func130.trans (Zd some (by kernel_rfl))⟩
 f8:=⟨Tryz.f183.name,by decide,Tryz.func183.trans (Zd some (by kernel_rfl))⟩
 f11:=⟨Tryz.f226.name,by decide,Tryz.func226.trans (Zd some (by kernel_rfl))⟩
 t0:=Tryz.underlying0
 a0:=Tryz.isAgg0
 z0:=Tryz.sizeOf0
 v0:=Tryz.zeroValue0
 t24:=Tryz.underlying87
 a24:=Tryz.isAgg87
 z24:=Tryz.sizeOf87
 v24:=Tryz.zeroValue87
 t26:=Tryz.underlying9
 a26:=Tryz.isAgg9
 z26:=Tryz.sizeOf9
 v26:=Tryz.zeroValue9
 t28:=Tryz.underlying198
 a28:=Tryz.isAgg198
 z28:=Tryz.sizeOf198
 v28:=Tryz.zeroValue198
 i26:=by kernel_rfl}
def Tryz.keys131_ren:Go.Shelf.Ren:=⟨fun|7=>131|10=>185|n=>n,fun|23=>194|26=>9|3=>200|28=>198|0=>0|27=>197|33=>127|4=>4|n=>n,fun|n=>n⟩
theorem Tryz.keys131:Go.Proofs.SlLaysZ.n7 Tryz.prog Tryz.keys131_ren:={
 mixed:=by kernel_rfl
 f7:=⟨Tryz.f131.name,by decide,Tryz.func131.trans (Zd some (by kernel_rfl))⟩
 f10:=⟨Tryz.f185.name,by decide,Tryz.func185.trans (Zd some (by kernel_rfl))⟩
 t0:=Tryz.underlying0
 a0:=Tryz.isAgg0
 z0:=Tryz.sizeOf0
 v0:=Tryz.zeroValue0
 t4:=Tryz.underlying4
 a4:=Tryz.isAgg4
 z4:=Tryz.sizeOf4
 v4:=Tryz.zeroValue4
 t23:=Tryz.underlying194
 a23:=Tryz.isAgg194
 z23:=Tryz.sizeOf194
 v23:=Tryz.zeroValue194
 t26:=Tryz.underlying9
 a26:=Tryz.isAgg9
 z26:=Tryz.sizeOf9
 v26:=Tryz.zeroValue9
 t27:=Tryz.underlying197
 a27:=Tryz.isAgg197
 z27:=Tryz.sizeOf197
 v27:=Tryz.zeroValue197
 t28:=Tryz.underlying198
 a28:=Tryz.isAgg198
 z28:=Tryz.sizeOf198
 v28:=Tryz.zeroValue198
 t33:=Tryz.underlying127
 a33:=Tryz.isAgg127
 z33:=Tryz.sizeOf127
 v33:=Tryz.zeroValue127}
def Tryz.keys186_ren:Go.Shelf.Ren:=⟨fun|7=>186|10=>229|n=>n,fun|23=>200|26=>9|3=>4|28=>198|0=>0|27=>197|33=>127|4=>4|n=>n,fun|n=>n⟩
theorem Tryz.keys186:Go.Proofs.SlLaysZ.n7 Tryz.prog Tryz.keys186_ren:={
 mixed:=by kernel_rfl
 f7:=⟨Tryz.f186.name,by decide,Tryz.func186.trans (Zd some (by kernel_rfl))⟩
 f10:=⟨Tryz.f229.name,by decide,Tryz.func229.trans (Zd some (by kernel_rfl))⟩
 t0:=Tryz.underlying0
 a0:=Tryz.isAgg0
 z0:=Tryz.sizeOf0
 v0:=Tryz.zeroValue0
 t4:=Tryz.underlying4
 a4:=Tryz.isAgg4
 z4:=Tryz.sizeOf4
 v4:=Tryz.zeroValue4
 t23:=Tryz.underlying200
 a23:=Tryz.isAgg200
 z23:=Tryz.sizeOf200
 v23:=Tryz.zeroValue200
 t26:=Tryz.underlying9
 a26:=Tryz.isAgg9
 z26:=Tryz.sizeOf9
 v26:=Tryz.zeroValue9
 t27:=Tryz.underlying197
 a27:=Tryz.isAgg197
 z27:=Tryz.sizeOf197
 v27:=Tryz.zeroValue197
 t28:=Tryz.underlying198
 a28:=Tryz.isAgg198
 z28:=Tryz.sizeOf198
 v28:=Tryz.zeroValue198
 t33:=Tryz.underlying127
 a33:=Tryz.isAgg127
 z33:=Tryz.sizeOf127
 v33:=Tryz.zeroValue127}
def Tryz.del181_ren:Go.Shelf.Ren:=⟨fun|5=>181|n=>n,fun|23=>200|26=>9|24=>4|27=>259|0=>0|4=>4|n=>n,fun|n=>n⟩
theorem Tryz.del181:Go.Proofs.SlLaysDf.n5 Tryz.prog Tryz.del181_ren:={
 mixed:=by kernel_rfl
 f5:=⟨Tryz.f181.name,by decide,Tryz.func181.trans (Zd some (by kernel_rfl))⟩
 t0:=Tryz.underlying0
 a0:=Tryz.isAgg0
 z0:=Tryz.sizeOf0
 v0:=Tryz.zeroValue0
 t4:=Tryz.underlying4
 a4:=Tryz.isAgg4
 z4:=Tryz.sizeOf4
 v4:=Tryz.zeroValue4
 t23:=Tryz.underlying200
 a23:=Tryz.isAgg200
 z23:=Tryz.sizeOf200
 v23:=Tryz.zeroValue200
 a24:=Tryz.isAgg4
 z24:=Tryz.sizeOf4
 a26:=Tryz.isAgg9
 z26:=Tryz.sizeOf9
 t27:=Tryz.underlying259
 a27:=Tryz.isAgg259
 z27:=Tryz.sizeOf259
 v27:=Tryz.zeroValue259}
end Go.Proofs
namespace Go.Proofs
open Go.RowKit Go.Maps Go.Sort Go.Shelf
theorem Tryz.sorts130(m:Nat):AnyZ.SortsIn Tryz.prog Tryz.sorted130_ren Fence.wide m:=
 ⟨fun j4 off cap ss W hH abT bg=>callsIn_wide.2 (AnyM.slices_Sort_string Tryz.sort184 j4 off cap ss W hH abT bg),
  fun p cap W=>callsIn_wide.2 (AnyM.slices_Sort_string_none Tryz.sort184 p cap W)⟩
theorem Tryz.maps_Keys_131(mb:Option Nat)(W:World):CallsIn Fence.wide 5 Tryz.prog 131 #[.map mb] W fun e w'=>e= .returned (.func (.func 185) #[] #[.pointer (some ⟨W.heap.size,0,none⟩)])∧w'=W.alloc (.cells #[.map mb] 194):=
 AnyZ.keys_in Tryz.keys131 Fence.wide 5 trivial rfl mb W
set_option maxHeartbeats 1000000 in
theorem Tryz.slices_Sorted_keys_130_131{H:Type}(b nn:Nat)(D0:DataW H)(R:Value→Option (DataW H×List MemPlace))(w:World)(dt:w.ownsMap Tryz.prog 9 R b nn D0)(qA:Maps.size D0≤maxLen)(HW:Maps.size D0 * 16≤140737488355328):
  CallsIn Fence.wide 5 Tryz.prog 130 #[.func (.func 185) #[] #[.pointer (some ⟨w.heap.size,0,none⟩)]] (w.alloc (.cells #[.map (some b)] 194)) fun e w'=>∃ (v:Value) (ss:List (List UInt8)),e= .returned v∧ss.Perm (strKeys D0)∧
   w'.ownsRow (w.alloc (.cells #[.map (some b)] 194)).heap.size 9 1 v ss.length ((ss.mergeSort (fun x y=>decide (x≤y))).map encStr)∧(v= .slice none 0 0↔ss=[])∧Below (w.alloc (.cells #[.map (some b)] 194)).heap.size (w.alloc (.cells #[.map (some b)] 194)) w':=by
 have kh:=dt.lt
 have hseq:SeqGives Fence.wide 2 Tryz.prog 185 #[.pointer (some ⟨w.heap.size,0,none⟩)] encStr (fun ss=>ss.Perm (strKeys D0)) (Maps.size D0) (w.alloc (.cells #[.map (some b)] 194)):=
  AnyZ.keys_gives (ρ:=Tryz.keys131_ren) {Tryz.keys131 with} Fence.wide _ trivial rfl (by omega) w.heap.size b nn D0 _ (by simp) (by simp) (by
   obtain⟨es,clock,hb,Ft,hs,hD⟩:=dt
   exact⟨es,clock,(Below.heap_alloc _ _ b kh).trans hb,Ft,hs,hD⟩)
 exact AnyZ.sorted_in Tryz.sorted130 Fence.wide 5 trivial trivial trivial trivial rfl (by omega) (Tryz.sorts130 _) (enters_of Tryz.func184 (by kernel_rfl) rfl) 185 #[.pointer (some ⟨w.heap.size,0,none⟩)] trivial (enters_of Tryz.func185 (by kernel_rfl) rfl) _ _ qA HW _ hseq
theorem Tryz.maps_Keys_186(mb:Option Nat)(W:World):CallsIn Fence.wide 5 Tryz.prog 186 #[.map mb] W fun e w'=>e= .returned (.func (.func 229) #[] #[.pointer (some ⟨W.heap.size,0,none⟩)])∧w'=W.alloc (.cells #[.map mb] 200):=
 AnyZ.keys_in Tryz.keys186 Fence.wide 5 trivial rfl mb W
set_option maxHeartbeats 1000000 in
theorem Tryz.slices_Sorted_keys_130_186{H:Type}(b nn:Nat)(D0:DataW H)(R:Value→Option (DataW H×List MemPlace))(w:World)(dt:w.ownsMap Tryz.prog 9 R b nn D0)(qA:Maps.size D0≤maxLen)(HW:Maps.size D0 * 16≤140737488355328):
  CallsIn Fence.wide 5 Tryz.prog 130 #[.func (.func 229) #[] #[.pointer (some ⟨w.heap.size,0,none⟩)]] (w.alloc (.cells #[.map (some b)] 200)) fun e w'=>∃ (v:Value) (ss:List (List UInt8)),e= .returned v∧ss.Perm (strKeys D0)∧
   w'.ownsRow (w.alloc (.cells #[.map (some b)] 200)).heap.size 9 1 v ss.length ((ss.mergeSort (fun x y=>decide (x≤y))).map encStr)∧(v= .slice none 0 0↔ss=[])∧Below (w.alloc (.cells #[.map (some b)] 200)).heap.size (w.alloc (.cells #[.map (some b)] 200)) w':=by
 have kh:=dt.lt
 have hseq:SeqGives Fence.wide 2 Tryz.prog 229 #[.pointer (some ⟨w.heap.size,0,none⟩)] encStr (fun ss=>ss.Perm (strKeys D0)) (Maps.size D0) (w.alloc (.cells #[.map (some b)] 200)):=
  AnyZ.keys_gives (ρ:=Tryz.keys186_ren) {Tryz.keys186 with} Fence.wide _ trivial rfl (by omega) w.heap.size b nn D0 _ (by simp) (by simp) (by
   obtain⟨es,clock,hb,Ft,hs,hD⟩:=dt
   exact⟨es,clock,(Below.heap_alloc _ _ b kh).trans hb,Ft,hs,hD⟩)
 exact AnyZ.sorted_in Tryz.sorted130 Fence.wide 5 trivial trivial trivial trivial rfl (by omega) (Tryz.sorts130 _) (enters_of Tryz.func184 (by kernel_rfl) rfl) 229 #[.pointer (some ⟨w.heap.size,0,none⟩)] trivial (enters_of Tryz.func229 (by kernel_rfl) rfl) _ _ qA HW _ hseq
end Go.Proofs
namespace Go.Proofs
open Go.Shelf
def Tryz.laysNm216_ren:Go.Shelf.Ren:=⟨fun|16=>187|n=>n,fun|24=>87|9=>9|4=>4|n=>n,fun|n=>n⟩
theorem Tryz.laysNm216:Go.Proofs.Lays2.n16 Tryz.prog Tryz.laysNm216_ren:={
 mixed:=by kernel_rfl
 f16:=Tryz.func187.trans (Zd some (by kernel_rfl))
 t4:=Tryz.underlying4
 a4:=Tryz.isAgg4
 z4:=Tryz.sizeOf4
 v4:=Tryz.zeroValue4
 t9:=Tryz.underlying9
 a9:=Tryz.isAgg9
 z9:=Tryz.sizeOf9
 v9:=Tryz.zeroValue9
 t24:=Tryz.underlying87
 a24:=Tryz.isAgg87
 z24:=Tryz.sizeOf87
 v24:=Tryz.zeroValue87
 i9:=by kernel_rfl}
open Go.RowKit Go.Lib in
theorem Tryz.slices_Clone_string(b off n c:Nat)(zs:List ByteArray)(w:World)(hz:n≤zs.length)(mQ:n * 16≤140737488355328)(hc:∀ j,j<zs.length→w.cell? ⟨b,off+j,none⟩=some (.string (zs.getD j ByteArray.empty))):
  Calls Tryz.prog 187 #[.slice (some ⟨b,off,none⟩) n c] w fun e w'=>∃ v',e= .returned v'∧w'.ownsRow w.heap.size 9 1 v' n ((zs.take n).map (Value.string))∧v'≠.slice none 0 0∧Below w.heap.size w w':=Any.slices_Clone_string Tryz.laysNm216 b off n c zs w hz mQ hc
end Go.Proofs
