/- strings.Builder, as this program holds it: copyCheck, WriteString. -/
import Derived.Test.YtomhopcnkicknaaGreatDoorChecked
import Derived.Lib.Strings
import Derived.Lib.Slices
import Derived.Lib.Walk
import Derived.Lib.Builder
import Derived.Lib.AppendStr
import Derived.Lib.UnsafeStr
import Derived.Lib.MakeNoZero
import Derived.Lib.FrozenHead
import Derived.WalkKit
import Derived.Laws.Externs
import Derived.Laws.IdiomCopy
import Derived.Shelf.Strings.Builder1
import Derived.Shelf.Strings.Builder2
import Derived.Shelf.Strings.OnBuilder
import Derived.Shelf.Small.Wraps
import Derived.Shelf.Strings.BuilderF
import Derived.Shelf.Strings.BuilderK
import Derived.Shelf.Strings.Builder2Cap
import Derived.Shelf.Strconv.Itoa0
import Derived.Shelf.Strconv.Itoa1
import Derived.Shelf.LaysM
import Derived.Shelf.Strconv.Itoa2
import Derived.Shelf.Strconv.Itoa3
import Derived.Shelf.Strings.Search1
import Derived.Shelf.Strings.Search2
import Derived.Shelf.Strings.Search3
import Derived.Shelf.Strings.Shaped
import Derived.Shelf.Strings.BuilderCap
import Derived.Shelf.Slices.Turned
import Derived.Shelf.Slices.Clone
import Derived.Shelf.SortM.Plain
import Derived.Shelf.SortM.SortNone
import Derived.Test.YtomhopcnkicknaaGreatDoorSxX
set_option linter.unusedVariables false
set_option linter.unusedSimpArgs false
namespace Go.Proofs.YtomhopcnkicknaaGreatDoor
open _root_.Go.Proofs.Tryz
open Go.RowKit Go.Proofs
theorem sizeBuilder:(prog.info? 49).map (·.size)=some 2:=by kernel_rfl
theorem infoByte:∃ i,prog.info? 5=some i∧i.zero=some (.int .u8 0)∧i.size=1∧i.bytes=1:=by
 have h:(prog.info? 5).isSome=true:=by kernel_rfl
 obtain⟨i,hi⟩:=YG.1 h
 have h1:(prog.info? 5).bind (·.zero)=some (.int .u8 0):=by kernel_rfl
 have h2:(prog.info? 5).map (·.size)=some 1:=by kernel_rfl
 have h3:(prog.info? 5).map (·.bytes)=some 1:=by kernel_rfl
 rw[hi]at h1 h2 h3
 exact⟨i,hi,by simpa using h1,by simpa using h2,by simpa using h3⟩
set_option maxHeartbeats 1000000 in
set_option maxRecDepth 100000 in
theorem Xt(b:Nat)(w:World)(h0:w.cell? ⟨b,0,none⟩=some (.pointer (some ⟨b,0,none⟩))):
  Calls prog 34 #[.pointer (some ⟨b,0,none⟩)] w fun e w'=>e= .returned (.tuple #[])∧w'=w:=by
 obtain⟨j,hj,_⟩:=ZO.1 sizeBuilder
 go_enter func34,ntmps34
 go_wp2
 rw[Lib.run_neq_ptr_same w _ underlying46 hj]
 go_wp2
 go_end0
 exact⟨rfl,rfl⟩
set_option maxHeartbeats 1000000 in
set_option maxRecDepth 100000 in
theorem aNI(b:Nat)(w:World)(h0:w.cell? ⟨b,0,none⟩=some (.pointer none))(oM:w.shape? b=some (49,2))(hfz:w.frozen? ⟨b,0,none⟩=false):
  Calls prog 34 #[.pointer (some ⟨b,0,none⟩)] w fun e w'=>e= .returned (.tuple #[])∧w'=w.setCell ⟨b,0,none⟩ (.pointer (some ⟨b,0,none⟩)):=by
 obtain⟨j,hj,hjs⟩:=ZO.1 sizeBuilder
 go_enter func34,ntmps34
 go_wp2
 rw[Lib.run_to_unsafe w ⟨b,0,none⟩ underlying46 underlying110 hj (by rw[hjs];decide) oM (Nat.zero_lt_succ 1)]
 simp only[Result.andThen]
 rw[Oper.upon_value]
 go_wp2
 rw[run_callFunc_extern func67 (by kernel_rfl) (by kernel_rfl) (by kernel_rfl) (e:=Extern.AbiNoEscape.same) (by kernel_rfl)]
 rw[Lib.run_noEscape]
 simp only[Result.andThen]
 rw[Oper.upon_value]
 go_wp2
 rw[Lib.run_from_unsafe w ⟨b,0,none⟩ underlying110 underlying46 hj oM (by kernel_rfl)]
 simp only[Result.andThen]
 rw[Oper.upon_value]
 go_wp2
 go_end0
 exact⟨rfl,rfl⟩
abbrev pq(B b:Nat)(bs:List Value)(w:World):Prop:=Lib.IsBuilderF 49 5 B b bs w
def Em(w w':World):Prop:=∀ (k:Nat) (cs:Array Value) (t:TypeId) (f:Nat×Nat),t≠49→t≠5→w.heap[k]? =some (.cells cs t f)→w'.heap[k]? =some (.cells cs t f)
theorem Xr(B b:Nat)(bs:List Value)(w:World)(h:pq B b bs w):
  Calls prog 34 #[.pointer (some ⟨b,0,none⟩)] w fun e w'=>e= .returned (.tuple #[])∧(Lib.BuilderAtF 49 5 B b (.pointer (some ⟨b,0,none⟩)) bs w'∧Below B w w'∧Em w w'):=by
 rcases h with h|h
 ·refine(aNI b w h.cell0 h.shape h.frozen0).mono ?_
  rintro e w' ⟨rfl,rfl⟩
  refine⟨rfl,h.used _,(Below.refl B w).setCell (p:=⟨b,0,none⟩) h.1 _,fun k cs t f h1 h2 h3=> ?_⟩
  obtain⟨_,v,hb,_⟩:=h
  have hk:b≠k:=fun e=>by subst e;rw[hb]at h3;cases h3;exact h1 rfl
  rw[World.setCell,Yd,Z6 hk];exact h3
 ·refine(Xt b w h.cell0).mono ?_
  rintro e w' ⟨rfl,rfl⟩
  exact⟨rfl,h,Below.refl B _,fun _ _ _ _ _ _ h=>h⟩
set_option maxHeartbeats 2000000 in
set_option maxRecDepth 100000 in
theorem R6(B b:Nat)(bs:List Value)(s:ByteArray)(w:World)(h:pq B b bs w)(hlen:bs.length+s.size≤140737488355328)(Mm:B≤w.heap.size):
  Calls prog 11 #[.pointer (some ⟨b,0,none⟩),.string s] w fun e w'=>e= .returned (.tuple #[.int .i64 s.size,.nilIface])∧(pq B b (bs++Lib.strCells s) w'∧Below B w w'∧Em w w'):=by
 obtain⟨i0,hi,fX,cj,dt⟩:=infoByte
 go_enter func11,ntmps11
 go_wp2_with (go_at_call 34;refine(Xr B b bs _ h).mono ?_)
 rintro e w1 ⟨rfl,h1,cP,tH⟩
 obtain⟨hB,v,pM,ep,bB⟩:=h1
 have c0:w1.cell? ⟨b,0,none⟩=some (.pointer (some ⟨b,0,none⟩)):=by rw[Lib.cell_of_heap pM];rfl
 have c1:w1.cell? ⟨b,1,none⟩=some v:=by rw[Lib.cell_of_heap pM];rfl
 go_wp2_with (at_builtin;refine Lib.wpList_append_own_stringF _ rfl _ _ 47 9 rfl B 5 i0 underlying47 underlying9 hi fX cj dt _ _ _ rfl ep s rfl ?c3 ?c4 ?c5 ?_)
 case c3=>unfold maxLen;omega
 case c4=>omega
 case c5=>have:=cP.size;omega
 intro v' w2 Cj yG _
 have ax:b<w1.heap.size:=by
  rcases YF b w1.heap.size with h'|h'
  ·exact h'
  ·simp[Array.getElem?_eq_none h']at pM
 have cx:w2.heap[b]? =some (.cells #[.pointer (some ⟨b,0,none⟩),v] 49 (0,0)):=by
  rw[yG.block b ax (fun e=>bB e.symm)]
  exact pM
 have d0:w2.cell? ⟨b,0,none⟩=some (.pointer (some ⟨b,0,none⟩)):=by rw[Lib.cell_of_heap cx];rfl
 have d1:w2.cell? ⟨b,1,none⟩=some v:=by rw[Lib.cell_of_heap cx];rfl
 have f1:w2.frozen? ⟨b,1,none⟩=false:=Lib.frozen_of_heap cx 1
 obtain⟨ao,n',cap,rfl⟩:∃ ao n' cap,v'= .slice ao n' cap:=by
  rcases Cj.2 with⟨hv,_⟩|⟨g,cap,cur,fz,hv,_⟩
  ·exact⟨_,_,_,hv⟩
  ·exact⟨_,_,_,hv⟩
 go_wp2
 go_ret2
 refine⟨rfl,.inr ?_,?_,fun k cs t f t1 t2 hx=> ?_⟩
 ·exact Lib.BuilderAtF.put hB cx (bs':=bs++Lib.strCells s) (by simpa[Lib.strCells_length]using Cj) (by decide)
 ·exact(cP.grown yG (by have:=cP.size;omega) (fun k hk=>(ep.lt k hk).1)).setCell (p:=⟨b,1,none⟩) hB _
 ·have hx:=tH k cs t f t1 t2 hx
  have hk:k≠b:=fun e=>by subst e;rw[pM]at hx;cases hx;exact t1 rfl
  have hg:some k≠v.ownBlock:=fun e=>by
   rcases ep.2 with⟨hv,_⟩|⟨g,cap,cur,fz,hv,_,hh,_⟩
   ·rw[hv]at e;cases e
   ·rw[hv]at e;cases e;rw[hh]at hx;cases hx;exact t2 rfl
  rw[World.setCell,Yd,Z6 (fun e=>hk e.symm),yG.block k (Z0.1 hx).1 hg];exact hx
end Go.Proofs.YtomhopcnkicknaaGreatDoor
namespace Go.Proofs
open Go.Shelf
def Tryz.lays169_ren:Go.Shelf.Ren:=⟨fun|169=>15|n=>n,fun|70=>46|9=>9|0=>0|72=>49|37=>47|127=>83|3=>3|5=>5|n=>n,fun|n=>n⟩
theorem Tryz.lays169:Go.Proofs.Lays.n169 Tryz.prog Tryz.lays169_ren:=Go.Sx.Af
theorem Tryz.Builder_Extra_169:Builder.Extra Tryz.prog Tryz.lays169_ren:={
 sizeBuilder:=by kernel_rfl
 liesBuilder:=by kernel_rfl
 t5:=Tryz.underlying5
 a5:=Tryz.isAgg5
 z5:=Tryz.sizeOf5
 v5:=Tryz.zeroValue5
 infoByte:=by kernel_rfl
 cellsByte:=by kernel_rfl
 sizeByte:=by kernel_rfl
 neB5:=by decide}
open Go.RowKit in
theorem Tryz.Builder_String_any_f(B b:Nat)(l:List UInt8)(w:World)(h:Lib.IsBuilderF 49 5 B b (Lib.byteCells l) w)(Mm:B≤w.heap.size):
  Calls Tryz.prog 15 #[.pointer (some ⟨b,0,none⟩)] w fun e w'=>e= .returned (.string ⟨l.toArray⟩)∧(Lib.IsBuilderF 49 5 B b (Lib.byteCells l) w'∧Below B w w'):=Any.Builder_String_any_f Tryz.lays169 Tryz.Builder_Extra_169 B b l w h Mm
end Go.Proofs
