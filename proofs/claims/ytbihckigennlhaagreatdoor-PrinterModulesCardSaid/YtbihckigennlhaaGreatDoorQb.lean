/- strings.Builder, as this program holds it: copyCheck, WriteString. -/
import Derived.Test.YtbihckigennlhaaGreatDoorChecked
import Derived.Lib.Strings
import Derived.Lib.Slices
import Derived.Lib.Walk
import Derived.Lib.Builder
import Derived.Lib.AppendStr
import Derived.Lib.UnsafeStr
import Derived.Lib.MakeNoZero
import Derived.Lib.FrozenHead
import Derived.WalkKit
import Derived.Laws.Externs
import Derived.Laws.IdiomCopy
set_option linter.unusedVariables false
set_option linter.unusedSimpArgs false
namespace Go.Proofs.YtbihckigennlhaaGreatDoor
open Go.RowKit Go.Proofs
theorem sizeBuilder:(Tryz.prog.info? 113).map (·.size)=some 2:=by kernel_rfl
theorem infoByte:∃ i,Tryz.prog.info? 5=some i∧i.zero=some (.int .u8 0)∧i.size=1∧i.bytes=1:=by
 have h:(Tryz.prog.info? 5).isSome=true:=by kernel_rfl
 obtain⟨i,hi⟩:=Option.isSome_iff_exists.1 h
 have h1:(Tryz.prog.info? 5).bind (·.zero)=some (.int .u8 0):=by kernel_rfl
 have h2:(Tryz.prog.info? 5).map (·.size)=some 1:=by kernel_rfl
 have h3:(Tryz.prog.info? 5).map (·.bytes)=some 1:=by kernel_rfl
 rw[hi]at h1 h2 h3
 exact⟨i,hi,by simpa using h1,by simpa using h2,by simpa using h3⟩
set_option maxHeartbeats 1000000 in
set_option maxRecDepth 100000 in
theorem aEt(b:Nat)(w:World)(h0:w.cell? ⟨b,0,none⟩=some (.pointer (some ⟨b,0,none⟩))):
  Calls Tryz.prog 112 #[.pointer (some ⟨b,0,none⟩)] w fun e w'=>e= .returned (.tuple #[])∧w'=w:=by
 obtain⟨j,hj,_⟩:=Option.map_eq_some_iff.1 sizeBuilder
 go_enter Tryz.func112,Tryz.ntmps112
 go_wp2
 rw[Lib.run_neq_ptr_same w _ Tryz.underlying111 hj]
 go_wp2
 go_end0
 exact⟨rfl,rfl⟩
set_option maxHeartbeats 1000000 in
set_option maxRecDepth 100000 in
theorem aEs(b:Nat)(w:World)(h0:w.cell? ⟨b,0,none⟩=some (.pointer none))(hsh:w.shape? b=some (113,2))(hfz:w.frozen? ⟨b,0,none⟩=false):
  Calls Tryz.prog 112 #[.pointer (some ⟨b,0,none⟩)] w fun e w'=>e= .returned (.tuple #[])∧w'=w.setCell ⟨b,0,none⟩ (.pointer (some ⟨b,0,none⟩)):=by
 obtain⟨j,hj,hjs⟩:=Option.map_eq_some_iff.1 sizeBuilder
 go_enter Tryz.func112,Tryz.ntmps112
 go_wp2
 rw[Lib.run_to_unsafe w ⟨b,0,none⟩ Tryz.underlying111 Tryz.underlying188 hj (by rw[hjs];decide) hsh (Nat.zero_lt_succ 1)]
 simp only[Result.andThen]
 rw[Oper.upon_value]
 go_wp2
 rw[run_callFunc_extern Tryz.func157 (by kernel_rfl) (by kernel_rfl) (by kernel_rfl) (e:=Extern.AbiNoEscape.same) (by kernel_rfl)]
 rw[Lib.run_noEscape]
 simp only[Result.andThen]
 rw[Oper.upon_value]
 go_wp2
 rw[Lib.run_from_unsafe w ⟨b,0,none⟩ Tryz.underlying188 Tryz.underlying111 hj hsh (by kernel_rfl)]
 simp only[Result.andThen]
 rw[Oper.upon_value]
 go_wp2
 go_end0
 exact⟨rfl,rfl⟩
abbrev IsB(B b:Nat)(bs:List Value)(w:World):Prop:=Lib.IsBuilderF 113 5 B b bs w
theorem aEr(B b:Nat)(bs:List Value)(w:World)(h:IsB B b bs w):
  Calls Tryz.prog 112 #[.pointer (some ⟨b,0,none⟩)] w fun e w'=>e= .returned (.tuple #[])∧(Lib.BuilderAtF 113 5 B b (.pointer (some ⟨b,0,none⟩)) bs w'∧Below B w w'):=by
 rcases h with h|h
 ·refine(aEs b w h.cell0 h.shape h.frozen0).mono ?_
  rintro e w' ⟨rfl,rfl⟩
  exact⟨rfl,h.used _,(Below.refl B w).setCell (p:=⟨b,0,none⟩) h.1 _⟩
 ·refine(aEt b w h.cell0).mono ?_
  rintro e w' ⟨rfl,rfl⟩
  exact⟨rfl,h,Below.refl B _⟩
set_option maxHeartbeats 2000000 in
set_option maxRecDepth 100000 in
theorem aD8(B b:Nat)(bs:List Value)(s:ByteArray)(w:World)(h:IsB B b bs w)(hlen:bs.length+s.size≤140737488355328)(hBw:B≤w.heap.size):
  Calls Tryz.prog 62 #[.pointer (some ⟨b,0,none⟩),.string s] w fun e w'=>e= .returned (.tuple #[.int .i64 s.size,.nilIface])∧(IsB B b (bs++Lib.strCells s) w'∧Below B w w'):=by
 obtain⟨i0,hi,hz0,pn,tc⟩:=infoByte
 go_enter Tryz.func62,Tryz.ntmps62
 go_wp2_with (go_at_call 112;refine(aEr B b bs _ h).mono ?_)
 rintro e w1 ⟨rfl,h1,Xw⟩
 obtain⟨hB,v,El,kC,aQ⟩:=h1
 have c0:w1.cell? ⟨b,0,none⟩=some (.pointer (some ⟨b,0,none⟩)):=by rw[Lib.cell_of_heap El];rfl
 have c1:w1.cell? ⟨b,1,none⟩=some v:=by rw[Lib.cell_of_heap El];rfl
 go_wp2_with (at_builtin;refine Lib.wpList_append_own_stringF _ rfl _ _ 22 9 rfl B 5 i0 Tryz.underlying22 Tryz.underlying9 hi hz0 pn tc _ _ _ rfl kC s rfl ?c3 ?c4 ?c5 ?_)
 case c3=>unfold maxLen;omega
 case c4=>omega
 case c5=>have:=Xw.size;omega
 intro v' w2 aaz aDi _
 have aH:b<w1.heap.size:=by
  rcases Nat.lt_or_ge b w1.heap.size with h'|h'
  ·exact h'
  ·simp[Array.getElem?_eq_none h']at El
 have fx:w2.heap[b]? =some (.cells #[.pointer (some ⟨b,0,none⟩),v] 113 (0,0)):=by
  rw[aDi.block b aH (fun e=>aQ e.symm)]
  exact El
 have d0:w2.cell? ⟨b,0,none⟩=some (.pointer (some ⟨b,0,none⟩)):=by rw[Lib.cell_of_heap fx];rfl
 have d1:w2.cell? ⟨b,1,none⟩=some v:=by rw[Lib.cell_of_heap fx];rfl
 have f1:w2.frozen? ⟨b,1,none⟩=false:=Lib.frozen_of_heap fx 1
 obtain⟨ao,n',cap,rfl⟩:∃ ao n' cap,v'= .slice ao n' cap:=by
  rcases aaz.2 with⟨hv,_⟩|⟨g,cap,cur,fz,hv,_⟩
  ·exact⟨_,_,_,hv⟩
  ·exact⟨_,_,_,hv⟩
 go_wp2
 go_ret2
 refine⟨rfl,.inr ?_,?_⟩
 ·exact Lib.BuilderAtF.put hB fx (bs':=bs++Lib.strCells s) (by simpa[Lib.strCells_length]using aaz) (by decide)
 ·exact(Xw.grown aDi (by have:=Xw.size;omega) (fun k hk=>(kC.lt k hk).1)).setCell (p:=⟨b,1,none⟩) hB _
end Go.Proofs.YtbihckigennlhaaGreatDoor
