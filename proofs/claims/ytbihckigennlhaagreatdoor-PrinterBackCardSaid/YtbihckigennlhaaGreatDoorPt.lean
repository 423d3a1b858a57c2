/- The data of the printer's statements: expressions, types, tables, as values and as cells. -/
import Derived.Test.YtbihckigennlhaaGreatDoorGi
import Derived.Test.YtbihckigennlhaaGreatDoorCodeA
import Derived.Test.YtbihckigennlhaaGreatDoorCodeB
import Derived.Shelf.Strings.Builder1
import Derived.Shelf.Strings.Builder2
import Derived.Shelf.Strings.OnBuilder
import Derived.Shelf.Small.Utf8
import Derived.Shelf.Small.Bits
import Derived.Shelf.Small.Strs
import Derived.Shelf.Small.Wraps
import Derived.Shelf.Strings.BuilderF
import Derived.Shelf.Strings.BuilderK
import Derived.Shelf.Strings.Builder2Cap
import Derived.Shelf.Strconv.Atoi
import Derived.Shelf.Strconv.Itoa0
import Derived.Shelf.Strconv.Itoa1
import Derived.Shelf.LaysM
import Derived.Shelf.Strconv.Itoa2
import Derived.Shelf.Strconv.Itoa3
import Derived.Shelf.Strconv.AtoiErrFast
import Derived.Shelf.Strconv.ParseIntEmpty
import Derived.Shelf.Strconv.AtoiFail
import Derived.Shelf.Strconv.Clone
import Derived.Shelf.Strconv.SyntaxError
import Derived.Shelf.LaysC
import Derived.Shelf.Strconv.ToError
import Derived.Shelf.Strconv.AtoiErr
import Derived.Shelf.Strconv.ErrVar
import Derived.Shelf.Strconv.Lower
import Derived.Shelf.Strconv.ParseUint10
import Derived.Shelf.Strconv.ParseUint10Empty
import Derived.Shelf.Strconv.ParseUint10Any
import Derived.Shelf.Strconv.ParseInt10
import Derived.Shelf.Strconv.AtoiLong
import Derived.Shelf.Strconv.AtoiInnerAll
import Derived.Shelf.Strconv.RangeError
import Derived.Shelf.Strconv.ToErrorRange
import Derived.Shelf.Strconv.AtoiAll
import Derived.Shelf.Strconv.ErrVarAll
import Derived.Shelf.Strconv.ParseUintEmpty
import Derived.Shelf.Strconv.ParseUint10b64
import Derived.Shelf.Strconv.ParseUint10b32
import Derived.Shelf.Strconv.ParseUint10b16
import Derived.Shelf.Strconv.ParseUint10b8
import Derived.Shelf.Strconv.ParseUint10At
import Derived.Shelf.Strings.Search1
import Derived.Shelf.Strings.Search2
import Derived.Shelf.Strings.Search3
import Derived.Shelf.Strings.Shaped
import Derived.Shelf.Strings.BuilderCap
import Derived.Shelf.Slices.Turned
import Derived.Shelf.Bytes.SlIndexAt
import Derived.Shelf.Bytes.SlSearch0
import Derived.Shelf.Bytes.IndexByte
import Derived.Test.YtbihckigennlhaaGreatDoorChecked
import Derived.Test.YtbihckigennlhaaGreatDoorSxZ
import Derived.Lib.Join
import Derived.Lib.Small
import Derived.Lib.IndexMore
namespace Go.Proofs.YtbihckigennlhaaGreatDoor
open Go.Sx Go.Proofs
structure Fac where
 name:Str
 exp:Int
deriving DecidableEq,Inhabited
def Fac.cells(f:Fac):List AV:=[sv f.name,iv f.exp]
structure Val where
 kind:Int
 n:Int
 s:Str
deriving DecidableEq,Inhabited
def Val.cells(v:Val):List AV:=[iv v.kind,iv v.n,sv v.s]
structure Win where
 kind:Int
 size:Int
deriving DecidableEq,Inhabited
def Win.cells(w:Win):List AV:=[iv w.kind,iv w.size]
structure Ty where
 kind:Int
 unit:List Fac
 of:Str
deriving DecidableEq,Inhabited
def Ty.cells(t:Ty):List AV:=[iv t.kind,.sl false 2 (t.unit.map Fac.cells),sv t.of]
inductive Ex where
 |mk (kind:Int) (op name table:Str) (val:Val) (unit:List Fac) (param:Int) (win:Win) (args:List Ex)
deriving Inhabited
def Ex.kind:Ex→Int| .mk k _ _ _ _ _ _ _ _=>k
def Ex.op:Ex→Str| .mk _ o _ _ _ _ _ _ _=>o
def Ex.name:Ex→Str| .mk _ _ n _ _ _ _ _ _=>n
def Ex.table:Ex→Str| .mk _ _ _ t _ _ _ _ _=>t
def Ex.val:Ex→Val| .mk _ _ _ _ v _ _ _ _=>v
def Ex.unit:Ex→List Fac| .mk _ _ _ _ _ u _ _ _=>u
def Ex.param:Ex→Int| .mk _ _ _ _ _ _ p _ _=>p
def Ex.win:Ex→Win| .mk _ _ _ _ _ _ _ w _=>w
def Ex.args:Ex→List Ex| .mk _ _ _ _ _ _ _ _ ks=>ks
mutual
def Ex.cells:Ex→List AV
 | .mk k o n t v u p w ks=>[iv k,sv o,sv n,sv t,iv v.kind,iv v.n,sv v.s,.sl false 2 (u.map Fac.cells),iv p,iv w.kind,iv w.size,.sl false 12 (Ex.cellsL ks)]
def Ex.cellsL:List Ex→List (List AV)
 |[]=>[]
 |x::l=>x.cells::Ex.cellsL l
end
theorem Ex.cellsL_eq:∀ l:List Ex,Ex.cellsL l=l.map Ex.cells
 |[]=>rfl
 |x::l=>by rw[Ex.cellsL,Ex.cellsL_eq l];rfl
def Ex.row(x:Ex):List AV:=[iv x.kind,sv x.op,sv x.name,sv x.table,iv x.val.kind,iv x.val.n,sv x.val.s,.sl false 2 (x.unit.map Fac.cells),iv x.param,iv x.win.kind,iv x.win.size,.sl false 12 (x.args.map Ex.cells)]
theorem Ex.cells_row:Ex.cells=Ex.row:=funext fun x=>by
 cases x
 simp only[Ex.cells,Ex.row,Ex.cellsL_eq,Ex.kind,Ex.op,Ex.name,Ex.table,Ex.val,Ex.unit,Ex.param,Ex.win,Ex.args]
theorem Ex.row_eq(x:Ex):x.row=[iv x.kind,sv x.op,sv x.name,sv x.table,iv x.val.kind,iv x.val.n,sv x.val.s,.sl false 2 (x.unit.map Fac.cells),iv x.param,iv x.win.kind,iv x.win.size,.sl false 12 (x.args.map Ex.row)]:=by
 rw[← Ex.cells_row]
 have:=congrFun Ex.cells_row x
 rw[this]
 rfl
mutual
def Ex.size:Ex→Nat
 | .mk _ _ _ _ _ _ _ _ ks=>1+Ex.sizeL ks
def Ex.sizeL:List Ex→Nat
 |[]=>0
 |x::l=>x.size+Ex.sizeL l
end
mutual
def Ex.depth:Ex→Nat
 | .mk _ _ _ _ _ _ _ _ ks=>Ex.depthL ks+1
def Ex.depthL:List Ex→Nat
 |[]=>0
 |x::l=>max x.depth (Ex.depthL l)
end
theorem Ex.size_args(x:Ex):x.size=1+Ex.sizeL x.args:=by cases x;rfl
theorem Ex.depth_args(x:Ex):x.depth=Ex.depthL x.args+1:=by cases x;rfl
theorem Ex.size_pos(x:Ex):0<x.size:=by rw[Ex.size_args];omega
theorem Ex.sizeL_mem{l:List Ex}{y:Ex}(h:y∈l):y.size≤Ex.sizeL l:=by
 induction l with
 |nil=>cases h
 |cons x l ih=>
  rw[Ex.sizeL]
  rcases List.mem_cons.1 h with rfl|h
  ·omega
  ·have:=ih h;omega
theorem Ex.size_lt{x y:Ex}(h:y∈x.args):y.size<x.size:=by
 have:=Ex.sizeL_mem h
 rw[Ex.size_args x];omega
theorem Ex.sizeL_take{l:List Ex}{i:Nat}(h:i<l.length):Ex.sizeL (l.take (i+1))=Ex.sizeL (l.take i)+(l.getD i default).size:=by
 induction l generalizing i with
 |nil=>simp at h
 |cons x l ih=>
  cases i with
  |zero=>simp[Ex.sizeL]
  |succ i=>
   have:=ih (i:=i) (by simpa using h)
   simp only[List.take_succ_cons,Ex.sizeL,List.getD_cons_succ,this]
   omega
theorem Ex.sizeL_take_le(l:List Ex)(i:Nat):Ex.sizeL (l.take i)≤Ex.sizeL l:=by
 induction l generalizing i with
 |nil=>simp
 |cons x l ih=>
  cases i with
  |zero=>simp[Ex.sizeL]
  |succ i=>simp only[List.take_succ_cons,Ex.sizeL];have:=ih i;omega
theorem Ex.depthL_take{l:List Ex}{i:Nat}(h:i<l.length):Ex.depthL (l.take (i+1))=max (Ex.depthL (l.take i)) (l.getD i default).depth:=by
 induction l generalizing i with
 |nil=>simp at h
 |cons x l ih=>
  cases i with
  |zero=>simp[Ex.depthL]
  |succ i=>
   have:=ih (i:=i) (by simpa using h)
   simp only[List.take_succ_cons,Ex.depthL,List.getD_cons_succ,this]
   omega
mutual
theorem Ex.depth_le:∀ x:Ex,x.depth≤x.size
 | .mk _ _ _ _ _ _ _ _ ks=>by rw[Ex.depth,Ex.size];have:=Ex.depthL_le ks;omega
theorem Ex.depthL_le:∀ l:List Ex,Ex.depthL l≤Ex.sizeL l
 |[]=>Nat.le_refl _
 |x::l=>by rw[Ex.depthL,Ex.sizeL];have:=Ex.depth_le x;have:=Ex.depthL_le l;omega
end
theorem Ex.ind{C:Ex→Prop}(h:∀ x,(∀ y∈x.args,C y)→C x)(x:Ex):C x:=by
 have:∀ n x,Ex.size x≤n→C x:=by
  intro n
  induction n with
  |zero=>intro x hx;have:=Ex.size_pos x;omega
  |succ n ih=>intro x hx;exact h x fun y hy=>ih y (by have:=Ex.size_lt hy;omega)
 exact this x.size x (Nat.le_refl _)
structure Fld where
 name:Str
 type:Ty
deriving DecidableEq,Inhabited
def Fld.cells(f:Fld):List AV:=[sv f.name,iv f.type.kind,.sl false 2 (f.type.unit.map Fac.cells),sv f.type.of]
structure Tab where
 name:Str
 entity:Str
 fields:List Fld
 keep:Int
deriving DecidableEq,Inhabited
def Tab.cells(t:Tab):List AV:=[sv t.name,sv t.entity,.sl false 4 (t.fields.map Fld.cells),iv t.keep]
structure Fea where
 name:Str
 entity:Str
 type:Ty
 body:Ex
 version:Int
deriving Inhabited
def Fea.cells(f:Fea):List AV:=[sv f.name,sv f.entity,iv f.type.kind,.sl false 2 (f.type.unit.map Fac.cells),sv f.type.of,iv f.body.kind,sv f.body.op,sv f.body.name,sv f.body.table,iv f.body.val.kind,iv f.body.val.n,sv f.body.val.s,.sl false 2 (f.body.unit.map Fac.cells),iv f.body.param,iv f.body.win.kind,iv f.body.win.size,.sl false 12 (f.body.args.map Ex.cells),iv f.version]
structure Mdl where
 tables:List Tab
 features:List Fea
deriving Inhabited
def Mdl.cells(m:Mdl):List AV:=[.sl false 4 (m.tables.map Tab.cells),.sl false 18 (m.features.map Fea.cells)]
set_option linter.unusedSimpArgs false
set_option linter.unusedVariables false
set_option maxRecDepth 100000
def Low(c:Nat):Prop:=97≤c∧c≤122
instance (c:Nat):Decidable (Low c):=inferInstanceAs (Decidable (_∧_))
def Dig(c:Nat):Prop:=48≤c∧c≤57
instance (c:Nat):Decidable (Dig c):=inferInstanceAs (Decidable (_∧_))
def Wch(c:Nat):Prop:=Low c∨Dig c∨c=95
instance (c:Nat):Decidable (Wch c):=inferInstanceAs (Decidable (_∨_))
def Word(s:Str):Prop:=1≤s.size∧s.size≤24∧Low ((byteAt s 0).toNat)∧∀ i,i<s.size→Wch ((byteAt s i).toNat)
instance (s:Str):Decidable (Word s):=inferInstanceAs (Decidable (_∧_∧_∧_))
theorem cons_lt{P:Nat→Prop}{i:Nat}(h:∀ j,j<i→P j)(hi:P i):∀ j,j<i+1→P j:=fun j hj=>by
 rcases Nat.lt_or_ge j i with h'|h'
 ·exact h j h'
 ·obtain rfl:j=i:=by omega
  exact hi
theorem outside_ok(n m:Int)(hm: -1000≤m∧m≤1000):Pure Tryz.prog 148 [iv n,iv m] (.v (.bool (decide (n>m∨n< -m)))):=by
 refine Pure.runk (fun _=>0) Tryz.func148 comp148 era148 (Nat.le_of_ble_eq_true rfl) fun σ=> ?_
 repeat'(first|exact .nil|refine .k0 ?_|refine .k1 ?_|refine .k2 ?_|refine .k4 ?_|refine .k7 ?_|refine .r1 ?_ ?_|fail)
 try any_goals(exact Zo)
 all_goals(try simp only[BL]at *)
 ·rw[i64w (by omega)]
  (((refine Sx.Fin.intro Zs (bd ?_);(try simp only[BL]at *);(try simp only[Low,Dig,Wch,and_assoc]at *)));try omega)
theorem far_ok(n:Int):Pure Tryz.prog 104 [iv n] (.v (.bool (decide (n>8∨n< -8)))):=by
 refine Pure.runk (fun _=>0) Tryz.func104 comp104 era104 (Nat.le_of_ble_eq_true rfl) fun σ=> ?_
 repeat'(first|exact .nil|refine .k0 ?_|refine .k1 ?_|refine .k2 ?_|refine .k4 ?_|refine .k7 ?_|refine .r1 ?_ ?_|fail)
 try any_goals(exact Zo)
 all_goals(try simp only[BL]at *)
 ·(((refine Sx.Fin.intro Zs (bd ?_);(try simp only[BL]at *);(try simp only[Low,Dig,Wch,and_assoc]at *)));try omega)
theorem letter_ok(c:UInt8):Pure Tryz.prog 145 [.v (.int .u8 c.toNat)] (.v (.bool (decide (Low c.toNat)))):=by
 refine Pure.runk (fun _=>0) Tryz.func145 comp145 era145 (Nat.le_of_ble_eq_true rfl) fun σ=> ?_
 repeat'(first|exact .nil|refine .k0 ?_|refine .k1 ?_|refine .k2 ?_|refine .k4 ?_|refine .k7 ?_|refine .r1 ?_ ?_|fail)
 all_goals(try simp only[BL]at *)
 ·(((refine Sx.Fin.intro Zs (bd ?_);(try simp only[BL]at *);(try simp only[Low,Dig,Wch,and_assoc]at *)));try omega)
theorem digit_ok(c:UInt8):Pure Tryz.prog 146 [.v (.int .u8 c.toNat)] (.v (.bool (decide (Dig c.toNat)))):=by
 refine Pure.runk (fun _=>0) Tryz.func146 comp146 era146 (Nat.le_of_ble_eq_true rfl) fun σ=> ?_
 repeat'(first|exact .nil|refine .k0 ?_|refine .k1 ?_|refine .k2 ?_|refine .k4 ?_|refine .k7 ?_|refine .r1 ?_ ?_|fail)
 all_goals(try simp only[BL]at *)
 ·(((refine Sx.Fin.intro Zs (bd ?_);(try simp only[BL]at *);(try simp only[Low,Dig,Wch,and_assoc]at *)));try omega)
theorem word_ok(s:Str):Pure Tryz.prog 147 [sv s] (.v (.bool (decide (Word s)))):=by
 refine Pure.runk (fun _=>0) Tryz.func147 comp147 era147 (Nat.le_of_ble_eq_true rfl) fun σ=> ?_
 repeat'(first|exact .nil|refine .k0 ?_|refine .k1 ?_|refine .k2 ?_|refine .k4 ?_|refine .k6 ?_|refine .k7 ?_|refine .k9 ?_|(refine .cd ?_ ?_<;>(intro hc;skip))|refine .r1 ?_ ?_|refine .t5 ?_ ?_ ?_|fail)
 try any_goals(exact Zo)
 all_goals(try simp only[BL]at *)
 ·refine Sx.Fin.intro Zs (bf ?_)
  rintro⟨h1,h2,h3,h4⟩
  simp only[Low,Dig,Wch]at h3
  omega
 refine WK_loop (fun n rg σ'=>∃ i:Nat,i≤s.size∧n=s.size-i∧(∀ j,j<i→Wch ((byteAt s j).toNat))∧σ'=σ∧rg=[(0,sv s),(24,iv s.size),(25,iv i)]) s.size rfl ⟨_,_,Zr,Zs,0,Nat.zero_le _,rfl,fun j hj=>absurd hj (by omega),rfl,rfl⟩ ?_
 rintro n _ _ ⟨i,hi,hn,hp,rfl,rfl⟩
 repeat'(first|exact .nil|refine .k0 ?_|refine .k1 ?_|refine .k2 ?_|refine .k4 ?_|refine .k6 ?_|refine .k7 ?_|refine .k8 ?_|refine .k9 ?_|(refine .cd ?_ ?_<;>(intro hc;skip))|refine .r1 ?_ ?_|refine .t5 ?_ ?_ ?_|fail)
 try any_goals(exact Zo)
 all_goals(try simp only[BL]at *)
 ·refine Sx.Fin.intro Zs (bf ?_)
  rintro⟨h1,h2,h3,h4⟩
  have:=h4 i (by omega)
  simp only[Low,Dig,Wch]at this
  omega
 ·refine⟨s.size-(i+1),by omega,_,_,Zr,Zs,i+1,by omega,rfl,cons_lt hp ?_,rfl,by rw[i64w (by omega)];rfl⟩
  simp only[Low,Dig,Wch]
  omega
 ·refine Sx.Fin.intro Zs (bt ?_)
  refine⟨by omega,by omega,by simp only[Low,Dig,Wch];omega,fun j hj=>hp j (by omega)⟩
theorem wordR_ok(s:Str):Pure Tryz.prog 103 [sv s] (.v (.bool (decide (Word s)))):=by
 refine Pure.runk (fun _=>0) Tryz.func103 comp103 era103 (Nat.le_of_ble_eq_true rfl) fun σ=> ?_
 repeat'(first|exact .nil|refine .k0 ?_|refine .k1 ?_|refine .k2 ?_|refine .k4 ?_|refine .k6 ?_|refine .k7 ?_|refine .k9 ?_|(refine .cd ?_ ?_<;>(intro hc;skip))|refine .r1 ?_ ?_|refine .t5 ?_ ?_ ?_|fail)
 try any_goals(exact Zo)
 all_goals(try simp only[BL]at *)
 ·refine Sx.Fin.intro Zs (bf ?_)
  rintro⟨h1,h2,h3,h4⟩
  simp only[Low,Dig,Wch]at h3
  omega
 refine WK_loop (fun n rg σ'=>∃ i:Nat,i≤s.size∧n=s.size-i∧(∀ j,j<i→Wch ((byteAt s j).toNat))∧σ'=σ∧rg=[(0,sv s),(3,iv i)]) s.size rfl ⟨_,_,Zr,Zs,0,Nat.zero_le _,rfl,fun j hj=>absurd hj (by omega),rfl,rfl⟩ ?_
 rintro n _ _ ⟨i,hi,hn,hp,rfl,rfl⟩
 repeat'(first|exact .nil|refine .k0 ?_|refine .k1 ?_|refine .k2 ?_|refine .k4 ?_|refine .k6 ?_|refine .k7 ?_|refine .k8 ?_|refine .k9 ?_|(refine .cd ?_ ?_<;>(intro hc;skip))|refine .r1 ?_ ?_|refine .t5 ?_ ?_ ?_|fail)
 try any_goals(exact Zo)
 all_goals(try simp only[BL]at *)
 ·refine Sx.Fin.intro Zs (bf ?_)
  rintro⟨h1,h2,h3,h4⟩
  have:=h4 i (by omega)
  simp only[Low,Dig,Wch]at this
  omega
 ·refine⟨s.size-(i+1),by omega,_,_,Zr,Zs,i+1,by omega,rfl,cons_lt hp ?_,rfl,by rw[i64w (by omega)];rfl⟩
  simp only[Low,Dig,Wch]
  omega
 ·refine Sx.Fin.intro Zs (bt ?_)
  refine⟨by omega,by omega,by simp only[Low,Dig,Wch];omega,fun j hj=>hp j (by omega)⟩
end Go.Proofs.YtbihckigennlhaaGreatDoor
namespace Go.Proofs
open Go.Shelf
def Tryz.lays156_ren:Go.Shelf.Ren:=⟨fun|156=>70|165=>119|166=>62|169=>64|240=>112|241=>163|276=>157|277=>187|n=>n,fun|31=>128|9=>9|3=>3|4=>4|0=>0|20=>20|72=>113|76=>116|70=>111|37=>22|75=>115|127=>161|164=>188|5=>5|80=>91|n=>n,fun|n=>n⟩
theorem Tryz.lays156:Go.Proofs.Lays.n156 Tryz.prog Tryz.lays156_ren:={
 mixed:=by kernel_rfl
 f156:=Tryz.func70.trans (congrArg some (by kernel_rfl))
 f165:=Tryz.func119.trans (congrArg some (by kernel_rfl))
 f166:=Tryz.func62.trans (congrArg some (by kernel_rfl))
 f169:=Tryz.func64.trans (congrArg some (by kernel_rfl))
 f240:=Tryz.func112.trans (congrArg some (by kernel_rfl))
 f241:=Tryz.func163.trans (congrArg some (by kernel_rfl))
 f276:=Tryz.func157.trans (congrArg some (by kernel_rfl))
 f277:=Tryz.func187.trans (congrArg some (by kernel_rfl))
 t0:=Tryz.underlying0
 a0:=Tryz.isAgg0
 z0:=Tryz.sizeOf0
 v0:=Tryz.zeroValue0
 t3:=Tryz.underlying3
 a3:=Tryz.isAgg3
 z3:=Tryz.sizeOf3
 v3:=Tryz.zeroValue3
 t4:=Tryz.underlying4
 a4:=Tryz.isAgg4
 z4:=Tryz.sizeOf4
 v4:=Tryz.zeroValue4
 t9:=Tryz.underlying9
 a9:=Tryz.isAgg9
 z9:=Tryz.sizeOf9
 v9:=Tryz.zeroValue9
 t20:=Tryz.underlying20
 a20:=Tryz.isAgg20
 z20:=Tryz.sizeOf20
 v20:=Tryz.zeroValue20
 t31:=Tryz.underlying128
 a31:=Tryz.isAgg128
 z31:=Tryz.sizeOf128
 v31:=Tryz.zeroValue128
 t37:=Tryz.underlying22
 a37:=Tryz.isAgg22
 z37:=Tryz.sizeOf22
 v37:=Tryz.zeroValue22
 t70:=Tryz.underlying111
 a70:=Tryz.isAgg111
 z70:=Tryz.sizeOf111
 v70:=Tryz.zeroValue111
 t72:=Tryz.underlying113
 a72:=Tryz.isAgg113
 z72:=Tryz.sizeOf113
 v72:=Tryz.zeroValue113
 t75:=Tryz.underlying115
 a75:=Tryz.isAgg115
 z75:=Tryz.sizeOf115
 v75:=Tryz.zeroValue115
 t76:=Tryz.underlying116
 a76:=Tryz.isAgg116
 z76:=Tryz.sizeOf116
 v76:=Tryz.zeroValue116
 t127:=Tryz.underlying161
 a127:=Tryz.isAgg161
 z127:=Tryz.sizeOf161
 v127:=Tryz.zeroValue161
 t164:=Tryz.underlying188
 a164:=Tryz.isAgg188
 z164:=Tryz.sizeOf188
 v164:=Tryz.zeroValue188}
theorem Tryz.Builder_Extra_156:Builder.Extra Tryz.prog Tryz.lays156_ren:={
 sizeBuilder:=by kernel_rfl
 liesBuilder:=by kernel_rfl
 t5:=Tryz.underlying5
 a5:=Tryz.isAgg5
 z5:=Tryz.sizeOf5
 v5:=Tryz.zeroValue5
 infoByte:=by kernel_rfl
 cellsByte:=by kernel_rfl
 sizeByte:=by kernel_rfl
 neB5:=by decide}
open Go.RowKit in
theorem Tryz.strings_Join_none(a:Option Addr)(c:Nat)(sep:ByteArray)(w:World):
  Calls Tryz.prog 70 #[.slice a 0 c,.string sep] w fun e w'=>e= .returned (.string ⟨#[]⟩)∧w'=w:=Any.strings_Join_none Tryz.lays156 Tryz.Builder_Extra_156 a c sep w
open Go.RowKit in
theorem Tryz.strings_Join(bk o c:Nat)(xs:List ByteArray)(sep:ByteArray)(w:World)(hcells:∀ (j:Nat) x,xs[j]? =some x→w.cell? ⟨bk,o+j,none⟩=some (.string x))(hbk:bk<w.heap.size)(hN:xs.length≤140737488355328)(hcap:xs.length≤c)(hlen:(Lib.join (xs.map (·.data.toList)) sep.data.toList).length≤140737488355328):
  Calls Tryz.prog 70 #[.slice (some ⟨bk,o,none⟩) xs.length c,.string sep] w fun e w'=>e= .returned (.string ⟨(Lib.join (xs.map (·.data.toList)) sep.data.toList).toArray⟩)∧Below w.heap.size w w':=Any.strings_Join Tryz.lays156 Tryz.Builder_Extra_156 bk o c xs sep w hcells hbk hN hcap hlen
def Tryz.lays137_ren:Go.Shelf.Ren:=⟨fun|137=>98|217=>144|266=>137|n=>n,fun|9=>9|5=>5|3=>3|n=>n,fun|n=>n⟩
theorem Tryz.lays137:Go.Proofs.Lays.n137 Tryz.prog Tryz.lays137_ren:={
 mixed:=by kernel_rfl
 f137:=Tryz.func98.trans (congrArg some (by kernel_rfl))
 f217:=Tryz.func144.trans (congrArg some (by kernel_rfl))
 f266:=Tryz.func137.trans (congrArg some (by kernel_rfl))
 t3:=Tryz.underlying3
 a3:=Tryz.isAgg3
 z3:=Tryz.sizeOf3
 v3:=Tryz.zeroValue3
 t5:=Tryz.underlying5
 a5:=Tryz.isAgg5
 z5:=Tryz.sizeOf5
 v5:=Tryz.zeroValue5
 t9:=Tryz.underlying9
 a9:=Tryz.isAgg9
 z9:=Tryz.sizeOf9
 v9:=Tryz.zeroValue9}
open Go.RowKit in
theorem Tryz.strings_IndexByte(s:ByteArray)(c:Int)(w:World):
  Calls Tryz.prog 98 #[.string s,.int .u8 c] w fun e w'=>e= .returned (.int .i64 (Lib.indexByte s.data.toList c.toNat.toUInt8))∧w'=w:=Any.strings_IndexByte Tryz.lays137 s c w
def Tryz.lays121_ren:Go.Shelf.Ren:=⟨fun|121=>196|214=>222|n=>n,fun|4=>4|9=>9|n=>n,fun|n=>n⟩
theorem Tryz.lays121:Go.Proofs.Lays.n121 Tryz.prog Tryz.lays121_ren:={
 mixed:=by kernel_rfl
 f121:=Tryz.func196.trans (congrArg some (by kernel_rfl))
 f214:=Tryz.func222.trans (congrArg some (by kernel_rfl))
 t4:=Tryz.underlying4
 a4:=Tryz.isAgg4
 z4:=Tryz.sizeOf4
 v4:=Tryz.zeroValue4
 t9:=Tryz.underlying9
 a9:=Tryz.isAgg9
 z9:=Tryz.sizeOf9
 v9:=Tryz.zeroValue9}
open Go.RowKit in
theorem Tryz.strconv_FormatBool(b:Bool)(w:World):
  Calls Tryz.prog 196 #[.bool b] w fun e w'=>e= .returned (.string ⟨(Lib.formatBool b).toArray⟩)∧w'=w:=Any.strconv_FormatBool Tryz.lays121 b w
def Tryz.laysM171_ren:Go.Shelf.Ren:=⟨fun|171=>71|243=>120|246=>164|283=>188|284=>189|285=>190|286=>191|129=>214|317=>213|318=>215|319=>216|320=>217|337=>231|338=>232|n=>n,fun|3=>3|9=>9|2=>2|4=>4|171=>218|0=>0|53=>210|37=>22|5=>5|173=>221|212=>242|51=>231|20=>20|213=>243|46=>206|232=>268|233=>269|n=>n,fun|17=>7|18=>12|19=>13|n=>n⟩
theorem Tryz.laysM171:Go.Proofs.LaysM.n171 Tryz.prog Tryz.laysM171_ren:={
 mixed:=by kernel_rfl
 f129:=Tryz.func214.trans (congrArg some (by kernel_rfl))
 f171:=Tryz.func71.trans (congrArg some (by kernel_rfl))
 f243:=Tryz.func120.trans (congrArg some (by kernel_rfl))
 f246:=Tryz.func164.trans (congrArg some (by kernel_rfl))
 f283:=Tryz.func188.trans (congrArg some (by kernel_rfl))
 f284:=Tryz.func189.trans (congrArg some (by kernel_rfl))
 f285:=Tryz.func190.trans (congrArg some (by kernel_rfl))
 f286:=Tryz.func191.trans (congrArg some (by kernel_rfl))
 f317:=Tryz.func213.trans (congrArg some (by kernel_rfl))
 f318:=Tryz.func215.trans (congrArg some (by kernel_rfl))
 f319:=Tryz.func216.trans (congrArg some (by kernel_rfl))
 f320:=Tryz.func217.trans (congrArg some (by kernel_rfl))
 f337:=Tryz.func231.trans (congrArg some (by kernel_rfl))
 f338:=Tryz.func232.trans (congrArg some (by kernel_rfl))
 t0:=Tryz.underlying0
 a0:=Tryz.isAgg0
 z0:=Tryz.sizeOf0
 v0:=Tryz.zeroValue0
 t2:=Tryz.underlying2
 a2:=Tryz.isAgg2
 z2:=Tryz.sizeOf2
 v2:=Tryz.zeroValue2
 t3:=Tryz.underlying3
 a3:=Tryz.isAgg3
 z3:=Tryz.sizeOf3
 v3:=Tryz.zeroValue3
 t4:=Tryz.underlying4
 a4:=Tryz.isAgg4
 z4:=Tryz.sizeOf4
 v4:=Tryz.zeroValue4
 t5:=Tryz.underlying5
 a5:=Tryz.isAgg5
 z5:=Tryz.sizeOf5
 v5:=Tryz.zeroValue5
 t9:=Tryz.underlying9
 a9:=Tryz.isAgg9
 z9:=Tryz.sizeOf9
 v9:=Tryz.zeroValue9
 t20:=Tryz.underlying20
 a20:=Tryz.isAgg20
 z20:=Tryz.sizeOf20
 v20:=Tryz.zeroValue20
 t37:=Tryz.underlying22
 a37:=Tryz.isAgg22
 z37:=Tryz.sizeOf22
 v37:=Tryz.zeroValue22
 t46:=Tryz.underlying206
 a46:=Tryz.isAgg206
 z46:=Tryz.sizeOf206
 v46:=Tryz.zeroValue206
 t51:=Tryz.underlying231
 a51:=Tryz.isAgg231
 z51:=Tryz.sizeOf231
 v51:=Tryz.zeroValue231
 t53:=Tryz.underlying210
 a53:=Tryz.isAgg210
 z53:=Tryz.sizeOf210
 v53:=Tryz.zeroValue210
 t171:=Tryz.underlying218
 a171:=Tryz.isAgg218
 z171:=Tryz.sizeOf218
 v171:=Tryz.zeroValue218
 t173:=Tryz.underlying221
 a173:=Tryz.isAgg221
 z173:=Tryz.sizeOf221
 v173:=Tryz.zeroValue221
 t212:=Tryz.underlying242
 a212:=Tryz.isAgg242
 z212:=Tryz.sizeOf242
 v212:=Tryz.zeroValue242
 t213:=Tryz.underlying243
 a213:=Tryz.isAgg243
 z213:=Tryz.sizeOf243
 t232:=Tryz.underlying268
 a232:=Tryz.isAgg268
 z232:=Tryz.sizeOf268
 v232:=Tryz.zeroValue268
 t233:=Tryz.underlying269
 a233:=Tryz.isAgg269
 z233:=Tryz.sizeOf269
 v233:=Tryz.zeroValue269
 g17:=by kernel_rfl
 g18:=by kernel_rfl
 g19:=by kernel_rfl
 i0:=by kernel_rfl
 i2:=by kernel_rfl
 i3:=by kernel_rfl
 i4:=by kernel_rfl
 i5:=by kernel_rfl
 i9:=by kernel_rfl
 i20:=by kernel_rfl
 i37:=by kernel_rfl
 i46:=by kernel_rfl
 i51:=by kernel_rfl
 i53:=by kernel_rfl
 i171:=by kernel_rfl
 i173:=by kernel_rfl
 i212:=by kernel_rfl
 i232:=by kernel_rfl
 i233:=by kernel_rfl
 m17:=by kernel_rfl
 m18:=by kernel_rfl
 m19:=by kernel_rfl}
open Go.RowKit Go.Sort Go.Lib in
theorem Tryz.strconv_Itoa(n:Int)(h0: -9223372036854775808≤n)(h1:n≤9223372036854775807)(w:World)(htab:Lib.TabIs Tryz.prog w "internal/strconv.uint64pow10" .u64 Lib.pow10Tab):
  Calls Tryz.prog 71 #[.int .i64 n] w fun e w'=>e= .returned (.string ⟨(Lib.itoa n).toArray⟩)∧∃ k os,w'=grow (w.drewN k) os:=Any.strconv_Itoa Tryz.laysM171 n h0 h1 w htab
def Tryz.laysC172_ren:Go.Shelf.Ren:=⟨fun|172=>136|244=>175|245=>176|247=>202|279=>203|280=>204|281=>205|282=>206|287=>224|316=>225|171=>71|205=>226|321=>236|322=>237|243=>120|246=>164|283=>188|284=>189|285=>190|286=>191|129=>214|317=>213|318=>215|319=>216|320=>217|337=>231|338=>232|n=>n,fun|9=>9|3=>3|75=>115|76=>116|4=>4|5=>5|167=>225|37=>22|0=>0|85=>226|2=>2|168=>228|53=>210|175=>247|46=>206|210=>251|127=>161|145=>260|143=>258|21=>21|171=>218|173=>221|212=>242|51=>231|20=>20|213=>243|232=>268|233=>269|80=>91|n=>n,fun|15=>8|16=>9|17=>7|18=>12|19=>13|n=>n⟩
theorem Tryz.laysC172:Go.Proofs.LaysC.n172 Tryz.prog Tryz.laysC172_ren:={
 mixed:=by kernel_rfl
 f129:=Tryz.func214.trans (congrArg some (by kernel_rfl))
 f171:=Tryz.func71.trans (congrArg some (by kernel_rfl))
 f172:=Tryz.func136.trans (congrArg some (by kernel_rfl))
 f205:=Tryz.func226.trans (congrArg some (by kernel_rfl))
 f243:=Tryz.func120.trans (congrArg some (by kernel_rfl))
 f244:=Tryz.func175.trans (congrArg some (by kernel_rfl))
 f245:=Tryz.func176.trans (congrArg some (by kernel_rfl))
 f246:=Tryz.func164.trans (congrArg some (by kernel_rfl))
 f247:=Tryz.func202.trans (congrArg some (by kernel_rfl))
 f279:=Tryz.func203.trans (congrArg some (by kernel_rfl))
 f280:=Tryz.func204.trans (congrArg some (by kernel_rfl))
 f281:=Tryz.func205.trans (congrArg some (by kernel_rfl))
 f282:=Tryz.func206.trans (congrArg some (by kernel_rfl))
 f283:=Tryz.func188.trans (congrArg some (by kernel_rfl))
 f284:=Tryz.func189.trans (congrArg some (by kernel_rfl))
 f285:=Tryz.func190.trans (congrArg some (by kernel_rfl))
 f286:=Tryz.func191.trans (congrArg some (by kernel_rfl))
 f287:=Tryz.func224.trans (congrArg some (by kernel_rfl))
 f316:=Tryz.func225.trans (congrArg some (by kernel_rfl))
 f317:=Tryz.func213.trans (congrArg some (by kernel_rfl))
 f318:=Tryz.func215.trans (congrArg some (by kernel_rfl))
 f319:=Tryz.func216.trans (congrArg some (by kernel_rfl))
 f320:=Tryz.func217.trans (congrArg some (by kernel_rfl))
 f321:=Tryz.func236.trans (congrArg some (by kernel_rfl))
 f322:=Tryz.func237.trans (congrArg some (by kernel_rfl))
 f337:=Tryz.func231.trans (congrArg some (by kernel_rfl))
 f338:=Tryz.func232.trans (congrArg some (by kernel_rfl))
 t0:=Tryz.underlying0
 a0:=Tryz.isAgg0
 z0:=Tryz.sizeOf0
 v0:=Tryz.zeroValue0
 t2:=Tryz.underlying2
 a2:=Tryz.isAgg2
 z2:=Tryz.sizeOf2
 v2:=Tryz.zeroValue2
 t3:=Tryz.underlying3
 a3:=Tryz.isAgg3
 z3:=Tryz.sizeOf3
 v3:=Tryz.zeroValue3
 t4:=Tryz.underlying4
 a4:=Tryz.isAgg4
 z4:=Tryz.sizeOf4
 v4:=Tryz.zeroValue4
 t5:=Tryz.underlying5
 a5:=Tryz.isAgg5
 z5:=Tryz.sizeOf5
 v5:=Tryz.zeroValue5
 t9:=Tryz.underlying9
 a9:=Tryz.isAgg9
 z9:=Tryz.sizeOf9
 v9:=Tryz.zeroValue9
 t20:=Tryz.underlying20
 a20:=Tryz.isAgg20
 z20:=Tryz.sizeOf20
 v20:=Tryz.zeroValue20
 t21:=Tryz.underlying21
 a21:=Tryz.isAgg21
 z21:=Tryz.sizeOf21
 v21:=Tryz.zeroValue21
 t37:=Tryz.underlying22
 a37:=Tryz.isAgg22
 z37:=Tryz.sizeOf22
 v37:=Tryz.zeroValue22
 t46:=Tryz.underlying206
 a46:=Tryz.isAgg206
 z46:=Tryz.sizeOf206
 v46:=Tryz.zeroValue206
 t51:=Tryz.underlying231
 a51:=Tryz.isAgg231
 z51:=Tryz.sizeOf231
 v51:=Tryz.zeroValue231
 t53:=Tryz.underlying210
 a53:=Tryz.isAgg210
 z53:=Tryz.sizeOf210
 v53:=Tryz.zeroValue210
 t75:=Tryz.underlying115
 a75:=Tryz.isAgg115
 z75:=Tryz.sizeOf115
 v75:=Tryz.zeroValue115
 t76:=Tryz.underlying116
 a76:=Tryz.isAgg116
 z76:=Tryz.sizeOf116
 v76:=Tryz.zeroValue116
 t85:=Tryz.underlying226
 a85:=Tryz.isAgg226
 z85:=Tryz.sizeOf226
 v85:=Tryz.zeroValue226
 t127:=Tryz.underlying161
 a127:=Tryz.isAgg161
 z127:=Tryz.sizeOf161
 v127:=Tryz.zeroValue161
 t143:=Tryz.underlying258
 a143:=Tryz.isAgg258
 z143:=Tryz.sizeOf258
 v143:=Tryz.zeroValue258
 t145:=Tryz.underlying260
 a145:=Tryz.isAgg260
 z145:=Tryz.sizeOf260
 v145:=Tryz.zeroValue260
 t167:=Tryz.underlying225
 a167:=Tryz.isAgg225
 z167:=Tryz.sizeOf225
 v167:=Tryz.zeroValue225
 t168:=Tryz.underlying228
 a168:=Tryz.isAgg228
 z168:=Tryz.sizeOf228
 v168:=Tryz.zeroValue228
 t171:=Tryz.underlying218
 a171:=Tryz.isAgg218
 z171:=Tryz.sizeOf218
 v171:=Tryz.zeroValue218
 t173:=Tryz.underlying221
 a173:=Tryz.isAgg221
 z173:=Tryz.sizeOf221
 v173:=Tryz.zeroValue221
 t175:=Tryz.underlying247
 a175:=Tryz.isAgg247
 z175:=Tryz.sizeOf247
 v175:=Tryz.zeroValue247
 t210:=Tryz.underlying251
 a210:=Tryz.isAgg251
 z210:=Tryz.sizeOf251
 v210:=Tryz.zeroValue251
 t212:=Tryz.underlying242
 a212:=Tryz.isAgg242
 z212:=Tryz.sizeOf242
 v212:=Tryz.zeroValue242
 t213:=Tryz.underlying243
 a213:=Tryz.isAgg243
 z213:=Tryz.sizeOf243
 t232:=Tryz.underlying268
 a232:=Tryz.isAgg268
 z232:=Tryz.sizeOf268
 v232:=Tryz.zeroValue268
 t233:=Tryz.underlying269
 a233:=Tryz.isAgg269
 z233:=Tryz.sizeOf269
 v233:=Tryz.zeroValue269
 g15:=by kernel_rfl
 g16:=by kernel_rfl
 g17:=by kernel_rfl
 g18:=by kernel_rfl
 g19:=by kernel_rfl
 t80:=Tryz.underlying91
 a80:=Tryz.isAgg91
 z80:=Tryz.sizeOf91
 v80:=Tryz.zeroValue91
 i0:=by kernel_rfl
 i2:=by kernel_rfl
 i3:=by kernel_rfl
 i4:=by kernel_rfl
 i5:=by kernel_rfl
 i9:=by kernel_rfl
 i20:=by kernel_rfl
 i21:=by kernel_rfl
 i37:=by kernel_rfl
 i46:=by kernel_rfl
 i51:=by kernel_rfl
 i53:=by kernel_rfl
 i75:=by kernel_rfl
 i76:=by kernel_rfl
 i80:=by kernel_rfl
 i85:=by kernel_rfl
 i127:=by kernel_rfl
 i143:=by kernel_rfl
 i145:=by kernel_rfl
 i167:=by kernel_rfl
 i168:=by kernel_rfl
 i171:=by kernel_rfl
 i173:=by kernel_rfl
 i175:=by kernel_rfl
 i210:=by kernel_rfl
 i212:=by kernel_rfl
 i232:=by kernel_rfl
 i233:=by kernel_rfl
 m15:=by kernel_rfl
 m16:=by kernel_rfl
 m17:=by kernel_rfl
 m18:=by kernel_rfl
 m19:=by kernel_rfl
 c0:=by kernel_rfl
 c2:=by kernel_rfl
 c3:=by kernel_rfl
 c4:=by kernel_rfl
 c5:=by kernel_rfl
 c9:=by kernel_rfl
 c20:=by kernel_rfl
 c21:=by kernel_rfl
 c37:=by kernel_rfl
 c46:=by kernel_rfl
 c51:=by kernel_rfl
 c53:=by kernel_rfl
 c75:=by kernel_rfl
 c76:=by kernel_rfl
 c80:=by kernel_rfl
 c85:=by kernel_rfl
 c127:=by kernel_rfl
 c143:=by kernel_rfl
 c145:=by kernel_rfl
 c167:=by kernel_rfl
 c168:=by kernel_rfl
 c171:=by kernel_rfl
 c173:=by kernel_rfl
 c175:=by kernel_rfl
 c210:=by kernel_rfl
 c212:=by kernel_rfl
 c213:=by kernel_rfl
 c232:=by kernel_rfl
 c233:=by kernel_rfl}
open Go.RowKit in
theorem Tryz.strconv_Atoi_ok(s:ByteArray)(hmax:s.size≤9223372036854775806)(v:Int)(h:Lib.atoiAll s.data.toList= .ok v)(w:World):
  Calls Tryz.prog 136 #[.string s] w fun e w'=>e= .returned (.tuple #[.int .i64 v,.nilIface])∧(w'=w∨∃ t,w'=Lib.bytesWorld w 5 t):=Any.strconv_Atoi_ok Tryz.laysC172 s hmax v h w
open Go.RowKit in
theorem Tryz.strconv_Atoi_range(s:ByteArray)(hlim:s.size≤281474976710656)(h:Lib.atoiAll s.data.toList= .range)(ev:Value)(w:World)(hv:w.cell? ⟨9,0,none⟩=some ev)(hev:ev= .nilIface∨∃ te pe,ev= .iface te pe):
  Calls Tryz.prog 136 #[.string s] w fun e w'=>∃ N,e= .returned (.tuple #[.int .i64 (Lib.atoiSat s.data.toList),.iface 228 (.pointer (some ⟨N,0,none⟩))])∧w.heap.size≤N∧w'.heap[N]? =some (.cells #[.string ⟨#[65,116,111,105]⟩,.string s,ev] 251 (0,0))∧Below w.heap.size w w':=Any.strconv_Atoi_range Tryz.laysC172 s hlim h ev w hv hev
def Tryz.lays144_ren:Go.Shelf.Ren:=⟨fun|144=>165|143=>192|219=>218|217=>144|225=>143|224=>179|267=>233|266=>137|314=>249|n=>n,fun|9=>9|4=>4|3=>3|5=>5|46=>206|146=>270|51=>231|n=>n,fun|1=>3|n=>n⟩
theorem Tryz.lays144:Go.Proofs.Lays.n144 Tryz.prog Tryz.lays144_ren:={
 mixed:=by kernel_rfl
 f143:=Tryz.func192.trans (congrArg some (by kernel_rfl))
 f144:=Tryz.func165.trans (congrArg some (by kernel_rfl))
 f217:=Tryz.func144.trans (congrArg some (by kernel_rfl))
 f219:=Tryz.func218.trans (congrArg some (by kernel_rfl))
 f224:=Tryz.func179.trans (congrArg some (by kernel_rfl))
 f225:=Tryz.func143.trans (congrArg some (by kernel_rfl))
 f266:=Tryz.func137.trans (congrArg some (by kernel_rfl))
 f267:=Tryz.func233.trans (congrArg some (by kernel_rfl))
 f314:=Tryz.func249.trans (congrArg some (by kernel_rfl))
 t3:=Tryz.underlying3
 a3:=Tryz.isAgg3
 z3:=Tryz.sizeOf3
 v3:=Tryz.zeroValue3
 t4:=Tryz.underlying4
 a4:=Tryz.isAgg4
 z4:=Tryz.sizeOf4
 v4:=Tryz.zeroValue4
 t5:=Tryz.underlying5
 a5:=Tryz.isAgg5
 z5:=Tryz.sizeOf5
 v5:=Tryz.zeroValue5
 t9:=Tryz.underlying9
 a9:=Tryz.isAgg9
 z9:=Tryz.sizeOf9
 v9:=Tryz.zeroValue9
 t46:=Tryz.underlying206
 a46:=Tryz.isAgg206
 z46:=Tryz.sizeOf206
 v46:=Tryz.zeroValue206
 t51:=Tryz.underlying231
 a51:=Tryz.isAgg231
 z51:=Tryz.sizeOf231
 v51:=Tryz.zeroValue231
 t146:=Tryz.underlying270
 a146:=Tryz.isAgg270
 z146:=Tryz.sizeOf270
 v146:=Tryz.zeroValue270
 g1:=by kernel_rfl}
open Go.RowKit Go.Lib in
theorem Tryz.strings_Contains_one(s:ByteArray)(c:UInt8)(w:World):
  Calls Tryz.prog 165 #[.string s,.string ⟨#[c]⟩] w fun e w'=>e= .returned (.bool (decide (0≤Lib.indexByte s.data.toList c)))∧w'=w:=Any.strings_Contains_one Tryz.lays144 s c w
open Go.RowKit Go.Lib in
theorem Tryz.strings_Contains(s sub:ByteArray)(m:Int)(w:World)(hs:s.size<4294967281)(hm:w.cell? ⟨3,0,none⟩=some (.int .i64 m)):
  Calls Tryz.prog 165 #[.string s,.string sub] w fun e w'=>e= .returned (.bool (Lib.contains s.data.toList sub.data.toList))∧w'=w:=Any.strings_Contains Tryz.lays144 s sub m w hs hm
def Tryz.lays187_ren:Go.Shelf.Ren:=⟨fun|187=>94|255=>134|n=>n,fun|37=>22|5=>5|3=>3|n=>n,fun|n=>n⟩
theorem Tryz.lays187:Go.Proofs.Lays.n187 Tryz.prog Tryz.lays187_ren:={
 mixed:=by kernel_rfl
 f187:=Tryz.func94.trans (congrArg some (by kernel_rfl))
 f255:=Tryz.func134.trans (congrArg some (by kernel_rfl))
 t3:=Tryz.underlying3
 a3:=Tryz.isAgg3
 z3:=Tryz.sizeOf3
 v3:=Tryz.zeroValue3
 t5:=Tryz.underlying5
 a5:=Tryz.isAgg5
 z5:=Tryz.sizeOf5
 v5:=Tryz.zeroValue5
 t37:=Tryz.underlying22
 a37:=Tryz.isAgg22
 z37:=Tryz.sizeOf22
 v37:=Tryz.zeroValue22}
theorem Tryz.bytes_IndexByte(b o n c:Nat)(xs:List Int)(cv:Int)(w:World)(hx:xs.length=n)(hc:∀ i,i<n→w.cell? ⟨b,o+i,none⟩=some (.int .u8 (xs.getD i 0))):
  Calls Tryz.prog 94 #[.slice (some ⟨b,o,none⟩) n c,.int .u8 cv] w fun e w'=>e= .returned (.int .i64 (Lib.indexByte (Lib.bytesOf xs) cv.toNat.toUInt8))∧w'=w:=Any.bytes_IndexByte Tryz.lays187 b o n c xs cv w hx hc
end Go.Proofs
set_option linter.unusedVariables false
namespace Go.Proofs.YtbihckigennlhaaGreatDoor
open Go.Sx Go.Proofs Go.RowKit
theorem str_of{M:Mem}{s:Str}{v:Value}(h:R M (sv s) v):v= .string s:=h.of_v
theorem maxLen_of{M:Mem}{w0:Base}{w:World}{σ:Store}(hI:Inv Tryz.prog M w0 σ w):∃ m,w.cell? ⟨3,0,none⟩=some (.int .i64 m):=by
 obtain⟨b,off,cs,hv,hM,hR⟩:=(hI.gl 3 [.ai .i64] rfl).of_pc
 cases hv
 obtain⟨n,hn⟩:=(hR 0 (by simp)).of_ai
 have h1:=hI.imm _ _ _ (hM 0 (by simp))
 have hn:cs 0= .int .i64 n:=hn
 rw[hn]at h1
 exact⟨n,h1⟩
theorem contains_one_ok(s:Str)(c:UInt8):Pure Tryz.prog 165 [sv s,sv ⟨#[c]⟩] (.v (.bool (decide (0≤Lib.indexByte s.data.toList c)))):=by
 refine Pure.shelf fun M w0 w σ cs hI hR=> ?_
 obtain⟨v1,vs,rfl,h1,h2⟩:=hR.uncons
 obtain⟨v2,rfl,h3⟩:=h2.un1
 obtain rfl:=str_of h1
 obtain rfl:=str_of h3
 exact(Tryz.strings_Contains_one s c w).mono fun e w' ⟨he,hw⟩=>⟨⟨_,he,.v _⟩,by rw[hw];exact Below.refl _ _⟩
theorem contains_ok(s t:Str)(hs:s.size<4294967281):Pure Tryz.prog 165 [sv s,sv t] (.v (.bool (Lib.contains s.data.toList t.data.toList))):=by
 refine Pure.shelf fun M w0 w σ cs hI hR=> ?_
 obtain⟨v1,vs,rfl,h1,h2⟩:=hR.uncons
 obtain⟨v2,rfl,h3⟩:=h2.un1
 obtain rfl:=str_of h1
 obtain rfl:=str_of h3
 obtain⟨m,hm⟩:=maxLen_of hI
 exact(Tryz.strings_Contains s t m w hs hm).mono fun e w' ⟨he,hw⟩=>⟨⟨_,he,.v _⟩,by rw[hw];exact Below.refl _ _⟩
theorem formatBool_ok(b:Bool):Pure Tryz.prog 196 [.v (.bool b)] (sv ⟨(Lib.formatBool b).toArray⟩):=by
 refine Pure.shelf fun M w0 w σ cs hI hR=> ?_
 obtain⟨v1,rfl,h1⟩:=hR.un1
 obtain rfl:=h1.of_v
 exact(Tryz.strconv_FormatBool b w).mono fun e w' ⟨he,hw⟩=>⟨⟨_,he,.v _⟩,by rw[hw];exact Below.refl _ _⟩
theorem below_grow(w:World)(n:Nat)(os:Array Obj):Below w.heap.size w (Go.Sort.grow (w.drewN n) os):=
 ⟨rfl,rfl,rfl,by simp[Go.Sort.grow,World.drewN],fun k hk=>by show(w.heap++os)[k]? =_;rw[Array.getElem?_append_left hk]⟩
def itoaS(n:Int):Str:=⟨(Lib.itoa n).toArray⟩
theorem itoa_ok(n:Int)(h: -9223372036854775808≤n∧n≤9223372036854775807):Pure Tryz.prog 71 [iv n] (sv (itoaS n)):=by
 refine Pure.shelf fun M w0 w σ cs hI hR=> ?_
 obtain⟨v1,rfl,h1⟩:=hR.un1
 obtain rfl:=h1.of_v
 have htab:Lib.TabIs Tryz.prog w "internal/strconv.uint64pow10" .u64 Lib.pow10Tab:=by
  obtain⟨g1,g2⟩:=hI.gw
  have hg:Tryz.prog.globalNamed "internal/strconv.uint64pow10" =some 7:=by kernel_rfl
  unfold Lib.TabIs World.var? at g1 ⊢
  rw[hg]at g1 ⊢
  simp only[Option.bind_some]at g1 ⊢
  rw[hI.old _ g2]
  exact g1
 refine(Tryz.strconv_Itoa n h.1 h.2 w htab).mono fun e w' ⟨he,k,os,hw⟩=>⟨⟨_,he,.v _⟩,?_⟩
 rw[hw]
 exact below_grow w k os
def joinS(ws:List Str)(sep:Str):Str:=⟨(Lib.join (ws.map (·.data.toList)) sep.data.toList).toArray⟩
theorem joinL_ok(ws:List Str)(sep:Str)(nn:Bool)(hN:ws.length≤140737488355328)(hlen:(Lib.join (ws.map (·.data.toList)) sep.data.toList).length≤140737488355328):
  Pure Tryz.prog 70 [.sl nn 1 (ws.map strRow),sv sep] (sv (joinS ws sep)):=by
 refine Pure.shelf fun M w0 w σ cs hI hR=> ?_
 obtain⟨v1,vs,rfl,h1,h2⟩:=hR.uncons
 obtain⟨v2,rfl,h3⟩:=h2.un1
 obtain rfl:=str_of h3
 rcases h1.of_sl with⟨a,_,h,rfl⟩|⟨b,off,cap,cs,rfl,hr,h4,h5⟩
 ·have:ws=[]:=by simpa using h
  subst this
  exact(Tryz.strings_Join_none a 0 sep w).mono fun e w' ⟨he,hw⟩=>⟨⟨_,he,.v _⟩,by rw[hw];exact Below.refl _ _⟩
 ·cases ws with
  |nil=>exact(Tryz.strings_Join_none (some ⟨b,off,none⟩) cap sep w).mono fun e w' ⟨he,hw⟩=>⟨⟨_,he,.v _⟩,by rw[hw];exact Below.refl _ _⟩
  |cons x ws=>
   have hcells:∀ (j:Nat) y,(x::ws)[j]? =some y→w.cell? ⟨b,off+j,none⟩=some (.string y):=fun j y hy=>by
    obtain⟨hj,e⟩:=List.getElem?_eq_some_iff.1 hy
    have hj':j<((x::ws).map strRow).length:=by simpa using hj
    have h6:=hI.imm _ _ _ (hr.mem j (by simpa using hj))
    have e2:((x::ws).map strRow)[j]=[sv y]:=by rw[List.getElem_map,e];rfl
    have h7:=hr.rel j hj' 0 (by rw[e2];simp)
    simp only[e2,List.getElem_cons_zero,Nat.mul_one,Nat.add_zero]at h7
    rw[h6,h7.of_v]
   have hbk:b<w.heap.size:=by
    have:=World.block_lt_of_cell? _ _ (hcells 0 x rfl)
    simpa using this
   have:=Tryz.strings_Join b off cap (x::ws) sep w hcells hbk hN (by simpa using h4) hlen
   simp only[List.length_map]at this ⊢
   exact this.mono fun e w' ⟨he,hw⟩=>⟨⟨_,he,.v _⟩,hw⟩
end Go.Proofs.YtbihckigennlhaaGreatDoor
set_option linter.unusedSimpArgs false
set_option maxRecDepth 100000
namespace Go.Proofs.YtbihckigennlhaaGreatDoor
open Go.Sx Go.Proofs
def kwB:List (List UInt8):=[[116,97,98,108,101],[102,101,97,116,117,114,101],[111,102],[107,101,101,112],[98,111,111,108],[116,101,120,116],[107,101,121],[105,110,116],[100,101,99],[105,102],[116,104,101,110],[101,108,115,101],[100,101,102,97,117,108,116],[111,114],[97,110,100],[110,111,116],[116,114,117,101],[102,97,108,115,101],[110,117,108,108],
 [99,111,117,110,116],[115,117,109],[109,101,97,110],[109,105,110],[109,97,120],[102,105,114,115,116],[108,97,115,116],[100,105,115,116,105,110,99,116],[113,117,97,110,116,105,108,101],[100,101,99,97,121],[97,108,108],[115,108,105,100,105,110,103],[116,117,109,98,108,105,110,103],[115,101,115,115,105,111,110],[119,104,101,114,101]]
def KW(s:Str):Prop:=s.data.toList∈kwB
instance (s:Str):Decidable (KW s):=inferInstanceAs (Decidable (_∈_))
def Name(s:Str):Prop:=Word s∧¬KW s
instance (s:Str):Decidable (Name s):=inferInstanceAs (Decidable (_∧_))
def spaced:List (List UInt8)→List UInt8
 |[]=>[32]
 |w::ws=>32::w++spaced ws
theorem infix_spaced(s:List UInt8)(hs:(32:UInt8)∉s)(hs0:s≠[]):∀ (ws:List (List UInt8)),(∀ w∈ws,(32:UInt8)∉w)→((32::s++[32]) <:+: spaced ws↔s∈ws)
 |[],_=>by
  simp only[spaced,List.not_mem_nil,iff_false]
  intro h
  have:=h.length_le
  simp at this
 |w::ws,hw=>by
  have ih:=infix_spaced s hs hs0 ws (fun x hx=>hw x (by simp[hx]))
  have hw0:=hw w (by simp)
  have hsp:∃ t,spaced ws=32::t:=by cases ws<;>exact⟨_,rfl⟩
  obtain⟨t,ht⟩:=hsp
  rw[List.mem_cons,← ih]
  simp only[spaced,List.cons_append]
  rw[List.infix_cons_iff]
  constructor
  ·rintro(h|h)
   ·left
    rw[List.cons_prefix_cons]at h
    have h:=h.2
    rw[ht]at h
    have key:∀ (s w t:List UInt8),(32:UInt8)∉s→(32:UInt8)∉w→s++[32] <+: w++32::t→s=w:=by
     intro s
     induction s with
     |nil=>
      intro w t _ hw h
      cases w with
      |nil=>rfl
      |cons a w=>
       simp only[List.nil_append,List.cons_append,List.cons_prefix_cons]at h
       exact absurd (by rw[h.1];simp) hw
     |cons a s ih=>
      intro w t hs hw h
      cases w with
      |nil=>
       simp only[List.nil_append,List.cons_append,List.cons_prefix_cons]at h
       exact absurd (by rw[h.1];simp) hs
      |cons b w=>
       simp only[List.cons_append,List.cons_prefix_cons]at h
       rw[h.1,ih w t (fun x=>hs (by simp[x])) (fun x=>hw (by simp[x])) h.2]
    exact key s w t hs hw0 h
   ·right
    have key:∀ (w:List UInt8),(32:UInt8)∉w→(32::s++[32]) <:+: w++spaced ws→(32::s++[32]) <:+: spaced ws:=by
     intro w
     induction w with
     |nil=>intro _ h;exact h
     |cons a w ih2=>
      intro hw h
      simp only[List.cons_append]at h
      rw[List.infix_cons_iff]at h
      rcases h with h|h
      ·rw[List.cons_prefix_cons]at h
       exact absurd (by rw[h.1];simp) hw
      ·exact ih2 (fun x=>hw (by simp[x])) h
    exact key w hw0 h
  ·rintro(rfl|h)
   ·left
    rw[List.cons_prefix_cons]
    refine⟨rfl,?_⟩
    rw[ht]
    exact⟨t,by simp⟩
   ·right
    exact h.trans (List.suffix_append _ _).isInfix
theorem index_infix(t:List UInt8):∀ s:List UInt8,0≤Lib.index s t↔t <:+: s
 |[]=>by
  unfold Lib.index
  cases t with
  |nil=>simp
  |cons a t=>simp
 |b::s=>by
  have ih:=index_infix t s
  rw[List.infix_cons_iff,← ih]
  have hg:=Lib.index_ge s t
  have e0:Lib.index (b::s) t=if t.isPrefixOf (b::s)then 0 else if Lib.index s t == -1 then -1 else Lib.index s t+1:=rfl
  rw[e0]
  cases h:t.isPrefixOf (b::s)with
  |true=>simp only[if_true];exact⟨fun _=> .inl (List.isPrefixOf_iff_prefix.1 h),fun _=>by decide⟩
  |false=>
   have hn:¬t <+: b::s:=fun hp=>by rw[List.isPrefixOf_iff_prefix.2 hp]at h;cases h
   simp only[Bool.false_eq_true,if_false]
   split
   ·rename_i e
    have e:Lib.index s t= -1:=by simpa using e
    simp only[e]
    exact⟨fun h=>absurd h (by decide),fun h=>h.elim (fun h=>absurd h hn) (fun h=>absurd h (by decide))⟩
   ·rename_i e
    have e:Lib.index s t≠-1:=by simpa using e
    exact⟨fun _=> .inr (by omega),fun _=>by omega⟩
theorem indexByte_mem(c:UInt8):∀ s:List UInt8,0≤Lib.indexByte s c↔c∈s
 |[]=>by simp[Lib.indexByte]
 |b::s=>by
  have ih:=indexByte_mem c s
  have hg:=Lib.indexByte_ge s c
  rw[List.mem_cons,← ih]
  have e0:Lib.indexByte (b::s) c=if b == c then 0 else if Lib.indexByte s c == -1 then -1 else Lib.indexByte s c+1:=rfl
  rw[e0]
  by_cases h:b=c
  ·subst h;simp
  ·have h':(b == c)=false:=by simpa using h
   rw[h']
   simp only[Bool.false_eq_true,if_false]
   split
   ·rename_i e
    have e:Lib.indexByte s c= -1:=by simpa using e
    simp only[e]
    exact⟨fun h=>absurd h (by decide),fun hh=>hh.elim (fun e=>absurd e.symm h) (fun h=>absurd h (by decide))⟩
   ·rename_i e
    have e:Lib.indexByte s c≠-1:=by simpa using e
    exact⟨fun _=> .inr (by omega),fun _=>by omega⟩
theorem kw_spaced(s:Str)(h0:s.data.toList≠[])(hs:(32:UInt8)∉s.data.toList):Lib.contains (spaced kwB) (32::s.data.toList++[32])=decide (KW s):=by
 have h:=infix_spaced s.data.toList hs h0 kwB (by decide)
 rw[Bool.eq_iff_iff,decide_eq_true_iff]
 unfold Lib.contains
 rw[decide_eq_true_iff,index_infix]
 exact h
theorem kw_blank{s:Str}(h:(32:UInt8)∈s.data.toList):¬KW s:=fun hk=>by
 have:∀ w∈kwB,(32:UInt8)∉w:=by decide
 exact this _ hk h
theorem kw_empty{s:Str}(h:s.data.toList=[]):¬KW s:=fun hk=>by
 have:∀ w∈kwB,w≠[]:=by decide
 exact this _ hk h
theorem str_ext{a b:Str}(h:a.data.toList=b.data.toList):a=b:=by
 cases a;cases b;congr 1;exact Array.ext' h
theorem str_nil{s:Str}:s=⟨#[]⟩↔s.data.toList=[]:=⟨fun h=>by rw[h],fun h=>str_ext h⟩
theorem str_app(a b:Str):(a++b).data.toList=a.data.toList++b.data.toList:=by simp
theorem str_size(a:Str):a.size=a.data.toList.length:=rfl
theorem keyword_ok(s:Str)(hs:s.size≤1000):Pure Tryz.prog 121 [sv s] (.v (.bool (decide (KW s)))):=by
 refine Pure.runk (fun _=>0) Tryz.func121 comp121 era121 (Nat.le_of_ble_eq_true rfl) fun σ=> ?_
 repeat'(first|exact .nil|refine .k0 ?_|refine .k1 ?_|refine .k2 ?_|refine .k4 ?_|refine .k7 ?_|refine .r1 ?_ ?_|refine .an rfl (by intro hob;first|exact contains_one_ok _ _|exact contains_ok _ _ (by decide)) ?_ ?_|fail)
 all_goals(try simp only[BL]at *)
 ·intro _
  simp only[ByteArray.size_append]
  have h1:(⟨#[32]⟩:Str).size=1:=rfl
  omega
 ·intro _
  have h1:(⟨#[32]⟩:Str).size=1:=rfl
  omega
 refine Sx.Fin.intro Zs ?_
 congr 2
 have e1:(⟨#[32]⟩++s++⟨#[32]⟩:Str).data.toList=32::s.data.toList++[32]:=by simp[str_app]
 rw[e1]
 have e2:Lib.contains (spaced kwB) (32::s.data.toList++[32])=Lib.contains _ (32::s.data.toList++[32]):=rfl
 by_cases h0:s.data.toList=[]
 ·rw[decide_eq_false (kw_empty h0),decide_eq_true (str_nil.2 h0)];rfl
 ·by_cases h1:(32:UInt8)∈s.data.toList
  ·rw[decide_eq_false (kw_blank h1),decide_eq_true ((indexByte_mem _ _).2 h1)];simp
  ·rw[← kw_spaced s h0 h1,decide_eq_false (fun h=>h0 (str_nil.1 h)),decide_eq_false (fun h=>h1 ((indexByte_mem _ _).1 h))]
   simp only[Bool.not_false,Bool.true_and]
   rfl
set_option maxHeartbeats 4000000 in
theorem keywordR_ok(s:Str):Pure Tryz.prog 102 [sv s] (.v (.bool (decide (KW s)))):=by
 refine Pure.runk (fun _=>0) Tryz.func102 comp102 era102 (Nat.le_of_ble_eq_true rfl) fun σ=> ?_
 repeat'(first|exact .nil|refine .k0 ?_|refine .k1 ?_|refine .k2 ?_|refine .k6 ?_|refine .k7 ?_|refine .k9 ?_|(refine .cd ?_ ?_<;>(intro hc;first|exact kf hc (by assumption)|skip))|refine .r1 ?_ ?_|fail)
 all_goals(try simp only[BL]at *)
 all_goals first
  |(refine Sx.Fin.intro Zs (bt ?_)
    subst hc
    decide)
  |(refine Sx.Fin.intro Zs (bf ?_)
    intro hk
    have hall:∀ w∈kwB,s≠⟨w.toArray⟩:=by
     simp only[kwB,List.forall_mem_cons]
     repeat'(first|assumption|(intro _ h;cases h;done)|refine⟨?_,?_⟩)
    exact hall _ hk (str_ext (by simp)))
theorem size_zero{s:Str}:s.size=0↔s=⟨#[]⟩:=by
 rw[str_nil,str_size];exact List.length_eq_zero_iff
theorem name_le(s:Str)(h24:s.size≤24):Pure Tryz.prog 72 [sv s] (.v (.bool (decide (Name s)))):=by
 refine Pure.runk (fun _=>0) Tryz.func72 comp72 era72 (Nat.le_of_ble_eq_true rfl) fun σ=> ?_
 repeat'(first|exact .nil|refine .k0 ?_|refine .k1 ?_|refine .k2 ?_|refine .k4 ?_|refine .k6 ?_|refine .k7 ?_|refine .k9 ?_|(refine .cd ?_ ?_<;>(intro hc;skip))|refine .r1 ?_ ?_|refine .an rfl (by intro hob;first|exact keyword_ok _ (by first|omega|fail)|fail) ?_ ?_|fail)
 try any_goals(exact Zo)
 all_goals(try simp only[BL]at *)
 ·refine Sx.Fin.intro Zs (bf ?_)
  rintro⟨⟨h1,_⟩,h2⟩
  rcases hc with(hc|hc)|hc
  ·have:=size_zero.2 hc;omega
  ·omega
  ·exact h2 hc
 have hne:s.size≠0:=fun h=>hc.1.1 (size_zero.1 h)
 refine WK_loop (fun n rg σ'=>∃ i:Nat,i≤s.size∧n=s.size-i∧(0<i→Low (byteAt s 0).toNat)∧(∀ j,j<i→Wch (byteAt s j).toNat)∧σ'=σ∧rg=[(0,sv s),(17,iv s.size),(18,iv i)]) s.size rfl ⟨_,_,Zr,Zs,0,Nat.zero_le _,rfl,fun h=>absurd h (by omega),fun j hj=>absurd hj (by omega),rfl,rfl⟩ ?_
 rintro n _ _ ⟨i,hi,hn,hp0,hp,rfl,rfl⟩
 repeat'(first|exact .nil|refine .k0 ?_|refine .k1 ?_|refine .k2 ?_|refine .k4 ?_|refine .k6 ?_|refine .k7 ?_|refine .k8 ?_|refine .k9 ?_|(refine .cd ?_ ?_<;>(intro hc;skip))|refine .r1 ?_ ?_|refine .t5 ?_ ?_ ?_|fail)
 try any_goals(exact Zo)
 all_goals(try simp only[BL]at *)
 ·refine⟨s.size-(i+1),by omega,_,_,Zr,Zs,i+1,by omega,rfl,fun _=> ?_,cons_lt hp (.inl (by simp only[Low];omega)),rfl,by rw[i64w (by omega)];rfl⟩
  by_cases h0:i=0
  ·subst h0;simp only[Low];omega
  ·exact hp0 (by omega)
 ·refine⟨s.size-(i+1),by omega,_,_,Zr,Zs,i+1,by omega,rfl,fun _=>hp0 (by omega),cons_lt hp ?_,rfl,by rw[i64w (by omega)];rfl⟩
  simp only[Low,Dig,Wch];omega
 ·refine Sx.Fin.intro Zs (bf ?_)
  rintro⟨⟨_,_,h0,h1⟩,_⟩
  have h2:=h1 i (by omega)
  by_cases h3:i=0
  ·subst h3;simp only[Low,Dig,Wch]at *;omega
  ·simp only[Low,Dig,Wch]at *;omega
 ·refine Sx.Fin.intro Zs (bt ?_)
  exact⟨⟨by omega,h24,hp0 (by omega),fun j hj=>hp j (by omega)⟩,by rename_i h1 _;exact h1.2⟩
theorem name_gt(s:Str)(h24:¬s.size≤24):Pure Tryz.prog 72 [sv s] (.v (.bool (decide (Name s)))):=by
 refine Pure.runk (fun _=>0) Tryz.func72 comp72 era72 (Nat.le_of_ble_eq_true rfl) fun σ=> ?_
 repeat'(first|exact .nil|refine .k0 ?_|refine .k1 ?_|refine .k2 ?_|refine .k4 ?_|refine .k6 ?_|refine .k7 ?_|refine .k9 ?_|(refine .cd ?_ ?_<;>(intro hc;skip))|refine .r1 ?_ ?_|refine .an rfl (by intro hob;first|exact keyword_ok _ (by(simp only[BL]at *;omega))|fail) ?_ ?_|fail)
 try any_goals(exact Zo)
 all_goals(try simp only[BL]at *)
 ·refine Sx.Fin.intro Zs (bf ?_)
  rintro⟨⟨_,h2,_⟩,_⟩
  omega
 ·exfalso
  omega
theorem name_ok(s:Str):Pure Tryz.prog 72 [sv s] (.v (.bool (decide (Name s)))):=by
 by_cases h:s.size≤24
 ·exact name_le s h
 ·exact name_gt s h
def wordLen(l:List UInt8)(at_:Nat):Nat:=match l.drop at_ with
 |[]=>0
 |c::t=>if Low c.toNat then 1+(t.takeWhile fun c=>decide (Wch c.toNat)).length else 0
theorem takeWhile_len{α:Type}[Inhabited α](p:α→Bool):∀ (t:List α) (n:Nat),n≤t.length→(∀ j,j<n→p (t.getD j default)=true)→(n=t.length∨p (t.getD n default)=false)→(t.takeWhile p).length=n
 |[],n,h,_,_=>by simp at h;simp[h]
 |c::t,0,_,_,h=>by
  rcases h with h|h
  ·simp at h
  ·have h:p c=false:=by simpa using h
   rw[List.takeWhile_cons,h];rfl
 |c::t,n+1,h,ha,he=>by
  have h0:p c=true:=by simpa using ha 0 (by omega)
  rw[List.takeWhile_cons,h0]
  simp only[if_true,List.length_cons]
  rw[takeWhile_len p t n (by simpa using h) (fun j hj=>by simpa using ha (j+1) (by omega)) (by simpa using he)]
theorem wordLen_0{l:List UInt8}{k:Nat}(hk:k<l.length)(h:¬Low (l.getD k default).toNat):wordLen l k=0:=by
 unfold wordLen
 rw[drop_get hk]
 simp only[if_neg h]
theorem wordLen_n{l:List UInt8}{k n:Nat}(hk:k<l.length)(h:Low (l.getD k default).toNat)(hn:1≤n)(hle:k+n≤l.length)(ha:∀ j,1≤j→j<n→Wch (l.getD (k+j) default).toNat)(he:k+n=l.length∨¬Wch (l.getD (k+n) default).toNat):wordLen l k=n:=by
 unfold wordLen
 rw[drop_get hk]
 simp only[if_pos h]
 have e:∀ j,(l.drop (k+1)).getD j default=l.getD (k+(j+1)) default:=fun j=>by simp only[List.getD_eq_getElem?_getD,List.getElem?_drop];congr 2;omega
 rw[takeWhile_len _ _ (n-1) (by simp;omega) (fun j hj=>by rw[e];exact decide_eq_true (ha (j+1) (by omega) (by omega)))]
 ·omega
 ·rw[e,show n-1+1=n from by omega]
  rcases he with he|he
  ·left;simp;omega
  ·right;exact decide_eq_false he
theorem word83_ok(l:List UInt8)(k:Nat)(nn:Bool)(hk:k<l.length)(hl:l.length≤9000000000000000000):Pure Tryz.prog 101 [.sl nn 1 (l.map byteRow),iv k] (iv (wordLen l k)):=by
 refine Pure.runk (fun _=>0) Tryz.func101 comp101 era101 (Nat.le_of_ble_eq_true rfl) fun σ=> ?_
 repeat'(first|exact .nil|refine .k0 ?_|refine .k1 ?_|refine .k2 ?_|refine .k6 ?_|refine .k7 ?_|refine .k9 ?_|(refine .cd ?_ ?_<;>(intro hc;skip))|refine .r1 ?_ ?_|refine .t1 ?_ ?_ ?_|refine .an rfl (by intro hob;first|exact letter_ok _|fail) ?_ ?_|fail)
 try any_goals(exact Zo)
 all_goals(try simp only[BL]at *)
 ·rw[wordLen_0 hk hc];exact Zw
 refine WK_loop (fun n rg σ'=>∃ i:Nat,1≤i∧k+i≤l.length∧n=l.length-i∧(∀ j,1≤j→j<i→Wch (l.getD (k+j) default).toNat)∧σ'=σ∧rg=[(0,.sl nn 1 (l.map byteRow)),(1,iv k),(5,iv i)]) (l.length-1) rfl ⟨_,_,Zr,Zs,1,Nat.le_refl _,by omega,rfl,fun j h1 h2=>absurd h2 (by omega),rfl,rfl⟩ ?_
 rintro n _ _ ⟨i,hi,hle,hn,hp,rfl,rfl⟩
 repeat'(first|exact .nil|refine .k0 ?_|refine .k1 ?_|refine .k2 ?_|refine .k3 ?_|refine .k4 ?_|refine .k6 ?_|refine .k7 ?_|refine .k8 ?_|refine .k9 ?_|(refine .cd ?_ ?_<;>(intro hc;skip))|refine .r1 ?_ ?_|(refine .m2 ?_ ?_;intro hlen)|refine .t1 ?_ ?_ ?_|refine .an rfl (by intro hob;first|exact letter_ok _|exact digit_ok _) ?_ ?_|fail)
 all_goals(try simp only[BL]at *)
 all_goals(have hw:IntKind.i64.wrap ((k:Int)+i)=((k+i:Nat):Int):=by rw[i64w (by omega)];omega)
 all_goals(simp only[hw,Int.toNat_natCast]at *)
 ·refine⟨l.length-(i+1),by omega,_,_,Zr,Zs,i+1,by omega,by omega,rfl,fun j h1 h2=> ?_,rfl,by rw[i64w (by omega)];rfl⟩
  by_cases h:j<i
  ·exact hp j h1 h
  ·obtain rfl:j=i:=by omega
   rcases hc.2 with(h3|h3)|h3
   ·exact .inl h3
   ·exact .inr (.inl h3)
   ·exact .inr (.inr (by omega))
 ·have h0:Low (l.getD k default).toNat:=by assumption
  rw[wordLen_n hk h0 hi hle hp (by
   rcases hc with h1|h1
   ·left;omega
   ·right
    rintro(h3|h3|h3)
    ·exact h1.1.1 h3
    ·exact h1.1.2 h3
    ·exact h1.2 (by omega))]
  exact Zw
 all_goals(intro h1;omega)
theorem wordLen_size{s:Str}(h1:1≤s.size):(wordLen s.data.toList 0=s.size)↔(Low (byteAt s 0).toNat∧∀ i,i<s.size→Wch (byteAt s i).toNat):=by
 have hl:s.data.toList.length=s.size:=rfl
 have hb:∀ i,s.data.toList.getD i default=byteAt s i:=fun i=>rfl
 constructor
 ·intro h
  have h0:Low (byteAt s 0).toNat:=by
   by_cases h2:Low (byteAt s 0).toNat
   ·exact h2
   ·rw[wordLen_0 (by omega) (by rw[hb];exact h2)]at h;omega
  refine⟨h0,fun i hi=> ?_⟩
  by_cases hi0:i=0
  ·subst hi0;exact .inl h0
  ·unfold wordLen at h
   rw[drop_get (by omega:0<s.data.toList.length),hb]at h
   simp only[Nat.zero_add,if_pos h0]at h
   have hlen:(s.data.toList.drop 1).length=s.size-1:=by rw[List.length_drop,hl]
   have hpre:=List.takeWhile_prefix (p:=fun c:UInt8=>decide (Wch c.toNat)) (l:=s.data.toList.drop 1)
   have heq:=hpre.eq_of_length (by omega)
   have hmem:byteAt s i∈s.data.toList.drop 1:=by
    rw[← hb,getD_eq (by omega:i<s.data.toList.length)]
    rw[List.mem_iff_getElem]
    exact⟨i-1,by omega,by rw[List.getElem_drop];congr 1;omega⟩
   rw[← heq]at hmem
   have:=List.all_eq_true.1 (List.all_takeWhile (p:=fun c:UInt8=>decide (Wch c.toNat)) (l:=s.data.toList.drop 1)) _ hmem
   exact of_decide_eq_true this
 ·rintro⟨h0,h⟩
  exact wordLen_n (by omega) (by rw[hb];exact h0) h1 (by omega) (fun j _ hj=>by rw[hb,Nat.zero_add];exact h j (by omega)) (.inl (by omega))
theorem word0_ok(s:Str)(h:¬s=⟨#[]⟩∧s.size≤24):Pure Tryz.prog 101 [.sl true 1 (s.data.toList.map byteRow),iv 0] (iv (wordLen s.data.toList 0)):=by
 have h0:s.size≠0:=fun e=>h.1 (size_zero.1 e)
 exact word83_ok s.data.toList 0 true (by rw[← str_size];omega) (by rw[← str_size];omega)
theorem nameR_ok(s:Str):Pure Tryz.prog 52 [sv s] (.v (.bool (decide (Name s)))):=by
 refine Pure.runk (fun _=>0) Tryz.func52 comp52 era52 (Nat.le_of_ble_eq_true rfl) fun σ=> ?_
 repeat'(first|exact .nil|refine .k0 ?_|refine .k1 ?_|refine .k2 ?_|refine .k4 ?_|refine .k7 ?_|refine .r1 ?_ ?_|refine .an rfl (by intro hob;first|exact keywordR_ok _|exact word0_ok _ (by simp only[BL]at hob;exact⟨hob.1,by omega⟩)) ?_ ?_|refine .t7 ?_ ?_ ?_|fail)
 try any_goals(exact Zo)
 all_goals(try simp only[BL]at *)
 ·(refine Sx.Fin.intro Zs (bd ?_);(try simp only[BL]at *);(try simp only[Low,Dig,Wch,and_assoc]at *))
  unfold Name Word
  constructor
  ·rintro⟨h1,h2,h3,h4⟩
   have h0:s.size≠0:=fun e=>h1 (size_zero.1 e)
   have h6:wordLen s.data.toList 0=s.size:=by omega
   have h5:=(wordLen_size (by omega)).1 h6
   exact⟨⟨by omega,by omega,h5⟩,h4⟩
  ·rintro⟨⟨h1,h2,h3⟩,h4⟩
   have h5:=(wordLen_size h1).2 h3
   exact⟨fun e=>by have:=size_zero.2 e;omega,by omega,by omega,h4⟩
end Go.Proofs.YtbihckigennlhaaGreatDoor
