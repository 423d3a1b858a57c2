/- The data of the printer's statements: expressions, types, tables, as values and as cells. -/
import Derived.Test.YtbihckigennlhaaGreatDoorGi
import Derived.Test.YtbihckigennlhaaGreatDoorCodeA
import Derived.Test.YtbihckigennlhaaGreatDoorCodeB
import Derived.Shelf.Strings.Builder1
import Derived.Shelf.Strings.Builder2
import Derived.Shelf.Strings.OnBuilder
import Derived.Shelf.Small.Utf8
import Derived.Shelf.Small.Bits
import Derived.Shelf.Small.Strs
import Derived.Shelf.Small.Wraps
import Derived.Shelf.Strings.BuilderF
import Derived.Shelf.Strings.BuilderK
import Derived.Shelf.Strings.Builder2Cap
import Derived.Shelf.Strconv.Atoi
import Derived.Shelf.Strconv.Itoa0
import Derived.Shelf.Strconv.Itoa1
import Derived.Shelf.LaysM
import Derived.Shelf.Strconv.Itoa2
import Derived.Shelf.Strconv.Itoa3
import Derived.Shelf.Strconv.AtoiErrFast
import Derived.Shelf.Strconv.ParseIntEmpty
import Derived.Shelf.Strconv.AtoiFail
import Derived.Shelf.Strconv.Clone
import Derived.Shelf.Strconv.SyntaxError
import Derived.Shelf.LaysC
import Derived.Shelf.Strconv.ToError
import Derived.Shelf.Strconv.AtoiErr
import Derived.Shelf.Strconv.ErrVar
import Derived.Shelf.Strconv.Lower
import Derived.Shelf.Strconv.ParseUint10
import Derived.Shelf.Strconv.ParseUint10Empty
import Derived.Shelf.Strconv.ParseUint10Any
import Derived.Shelf.Strconv.ParseInt10
import Derived.Shelf.Strconv.AtoiLong
import Derived.Shelf.Strconv.AtoiInnerAll
import Derived.Shelf.Strconv.RangeError
import Derived.Shelf.Strconv.ToErrorRange
import Derived.Shelf.Strconv.AtoiAll
import Derived.Shelf.Strconv.ErrVarAll
import Derived.Shelf.Strings.Search1
import Derived.Shelf.Strings.Search2
import Derived.Shelf.Strings.Search3
import Derived.Shelf.Strings.Shaped
import Derived.Shelf.Strings.BuilderCap
import Derived.Shelf.Bytes.IndexByte
import Derived.Test.YtbihckigennlhaaGreatDoorSxX3
import Derived.Test.YtbihckigennlhaaGreatDoorChecked
import Derived.Test.YtbihckigennlhaaGreatDoorSxZ
import Derived.Lib.Join
import Derived.Lib.Small
import Derived.Lib.IndexMore
namespace Go.Proofs.YtbihckigennlhaaGreatDoor
open Go.Sx Go.Proofs
structure aq where
 name:af
 exp:Int
deriving DecidableEq,Inhabited
def aq.cells(f:aq):List AV:=[sv f.name,iv f.exp]
structure ek where
 kind:Int
 n:Int
 s:af
deriving DecidableEq,Inhabited
def ek.cells(v:ek):List AV:=[iv v.kind,iv v.n,sv v.s]
structure fq where
 kind:Int
 size:Int
deriving DecidableEq,Inhabited
def fq.cells(w:fq):List AV:=[iv w.kind,iv w.size]
structure Ty where
 kind:Int
 unit:List aq
 of:af
deriving DecidableEq,Inhabited
def Ty.cells(t:Ty):List AV:=[iv t.kind,.sl false 2 (t.unit.map aq.cells),sv t.of]
inductive Ex where
 |mk (kind:Int) (op name table:af) (val:ek) (unit:List aq) (param:Int) (win:fq) (args:List Ex)
deriving Inhabited
def Ex.kind:Ex→Int| .mk k _ _ _ _ _ _ _ _=>k
def Ex.op:Ex→af| .mk _ o _ _ _ _ _ _ _=>o
def Ex.name:Ex→af| .mk _ _ n _ _ _ _ _ _=>n
def Ex.table:Ex→af| .mk _ _ _ t _ _ _ _ _=>t
def Ex.val:Ex→ek| .mk _ _ _ _ v _ _ _ _=>v
def Ex.unit:Ex→List aq| .mk _ _ _ _ _ u _ _ _=>u
def Ex.param:Ex→Int| .mk _ _ _ _ _ _ p _ _=>p
def Ex.win:Ex→fq| .mk _ _ _ _ _ _ _ w _=>w
def Ex.args:Ex→List Ex| .mk _ _ _ _ _ _ _ _ ks=>ks
mutual
def Ex.cells:Ex→List AV
 | .mk k o n t v u p w ks=>[iv k,sv o,sv n,sv t,iv v.kind,iv v.n,sv v.s,.sl false 2 (u.map aq.cells),iv p,iv w.kind,iv w.size,.sl false 12 (Ex.Ax ks)]
def Ex.Ax:List Ex→List (List AV)
 |[]=>[]
 |x::l=>x.cells::Ex.Ax l
end
theorem Ex.Jm:∀ l:List Ex,Ex.Ax l=l.map Ex.cells
 |[]=>rfl
 |x::l=>by rw[Ex.Ax,Ex.Jm l];rfl
def Ex.row(x:Ex):List AV:=[iv x.kind,sv x.op,sv x.name,sv x.table,iv x.val.kind,iv x.val.n,sv x.val.s,.sl false 2 (x.unit.map aq.cells),iv x.param,iv x.win.kind,iv x.win.size,.sl false 12 (x.args.map Ex.cells)]
theorem Ex.oR:Ex.cells=Ex.row:=funext fun x=>by
 cases x
 simp only[Ex.cells,Ex.row,Ex.Jm,Ex.kind,Ex.op,Ex.name,Ex.table,Ex.val,Ex.unit,Ex.param,Ex.win,Ex.args]
theorem Ex.bX(x:Ex):x.row=[iv x.kind,sv x.op,sv x.name,sv x.table,iv x.val.kind,iv x.val.n,sv x.val.s,.sl false 2 (x.unit.map aq.cells),iv x.param,iv x.win.kind,iv x.win.size,.sl false 12 (x.args.map Ex.row)]:=by
 rw[← Ex.oR]
 have:=congrFun Ex.oR x
 rw[this]
 rfl
mutual
def Ex.size:Ex→Nat
 | .mk _ _ _ _ _ _ _ _ ks=>1+Ex.er ks
def Ex.er:List Ex→Nat
 |[]=>0
 |x::l=>x.size+Ex.er l
end
mutual
def Ex.depth:Ex→Nat
 | .mk _ _ _ _ _ _ _ _ ks=>Ex.iD ks+1
def Ex.iD:List Ex→Nat
 |[]=>0
 |x::l=>max x.depth (Ex.iD l)
end
theorem Ex.pN(x:Ex):x.size=1+Ex.er x.args:=by cases x;rfl
theorem Ex.Vn(x:Ex):x.depth=Ex.iD x.args+1:=by cases x;rfl
theorem Ex.size_pos(x:Ex):0<x.size:=by rw[Ex.pN];omega
theorem Ex.OL{l:List Ex}{y:Ex}(h:y∈l):y.size≤Ex.er l:=by
 induction l with
 |nil=>cases h
 |cons x l ih=>
  rw[Ex.er]
  rcases ZV.1 h with rfl|h
  ·omega
  ·have:=ih h;omega
theorem Ex.tQ{x y:Ex}(h:y∈x.args):y.size<x.size:=by
 have:=Ex.OL h
 rw[Ex.pN x];omega
theorem Ex.axX{l:List Ex}{i:Nat}(h:i<l.length):Ex.er (l.take (i+1))=Ex.er (l.take i)+(l.getD i default).size:=by
 induction l generalizing i with
 |nil=>simp at h
 |cons x l ih=>
  cases i with
  |zero=>simp[Ex.er]
  |succ i=>
   have:=ih (i:=i) (by simpa using h)
   simp only[Yl,Ex.er,X2,this]
   omega
theorem Ex.axY(l:List Ex)(i:Nat):Ex.er (l.take i)≤Ex.er l:=by
 induction l generalizing i with
 |nil=>simp
 |cons x l ih=>
  cases i with
  |zero=>simp[Ex.er]
  |succ i=>simp only[Yl,Ex.er];have:=ih i;omega
theorem Ex.Vl{l:List Ex}{i:Nat}(h:i<l.length):Ex.iD (l.take (i+1))=max (Ex.iD (l.take i)) (l.getD i default).depth:=by
 induction l generalizing i with
 |nil=>simp at h
 |cons x l ih=>
  cases i with
  |zero=>simp[Ex.iD]
  |succ i=>
   have:=ih (i:=i) (by simpa using h)
   simp only[Yl,Ex.iD,X2,this]
   omega
mutual
theorem Ex.JK:∀ x:Ex,x.depth≤x.size
 | .mk _ _ _ _ _ _ _ _ ks=>by rw[Ex.depth,Ex.size];have:=Ex.JJ ks;omega
theorem Ex.JJ:∀ l:List Ex,Ex.iD l≤Ex.er l
 |[]=>ZI _
 |x::l=>by rw[Ex.iD,Ex.er];have:=Ex.JK x;have:=Ex.JJ l;omega
end
theorem Ex.ind{C:Ex→Prop}(h:∀ x,(∀ y∈x.args,C y)→C x)(x:Ex):C x:=by
 have:∀ n x,Ex.size x≤n→C x:=by
  intro n
  induction n with
  |zero=>intro x hx;have:=Ex.size_pos x;omega
  |succ n ih=>intro x hx;exact h x fun y hy=>ih y (by have:=Ex.tQ hy;omega)
 exact this x.size x (ZI _)
structure dX where
 name:af
 type:Ty
deriving DecidableEq,Inhabited
def dX.cells(f:dX):List AV:=[sv f.name,iv f.type.kind,.sl false 2 (f.type.unit.map aq.cells),sv f.type.of]
structure gp where
 name:af
 oX:af
 fields:List dX
 keep:Int
deriving DecidableEq,Inhabited
def gp.cells(t:gp):List AV:=[sv t.name,sv t.oX,.sl false 4 (t.fields.map dX.cells),iv t.keep]
structure mb where
 name:af
 oX:af
 type:Ty
 body:Ex
 version:Int
deriving Inhabited
def mb.cells(f:mb):List AV:=[sv f.name,sv f.oX,iv f.type.kind,.sl false 2 (f.type.unit.map aq.cells),sv f.type.of,iv f.body.kind,sv f.body.op,sv f.body.name,sv f.body.table,iv f.body.val.kind,iv f.body.val.n,sv f.body.val.s,.sl false 2 (f.body.unit.map aq.cells),iv f.body.param,iv f.body.win.kind,iv f.body.win.size,.sl false 12 (f.body.args.map Ex.cells),iv f.version]
structure oK where
 tables:List gp
 AK:List mb
deriving Inhabited
def oK.cells(m:oK):List AV:=[.sl false 4 (m.tables.map gp.cells),.sl false 18 (m.AK.map mb.cells)]
set_option linter.unusedSimpArgs false
set_option linter.unusedVariables false
set_option maxRecDepth 100000
def dp(c:Nat):Prop:=97≤c∧c≤122
instance (c:Nat):Decidable (dp c):=inferInstanceAs (Decidable (_∧_))
def dG(c:Nat):Prop:=48≤c∧c≤57
instance (c:Nat):Decidable (dG c):=inferInstanceAs (Decidable (_∧_))
def dz(c:Nat):Prop:=dp c∨dG c∨c=95
instance (c:Nat):Decidable (dz c):=inferInstanceAs (Decidable (_∨_))
def Word(s:af):Prop:=1≤s.size∧s.size≤24∧dp ((bB s 0).toNat)∧∀ i,i<s.size→dz ((bB s i).toNat)
instance (s:af):Decidable (Word s):=inferInstanceAs (Decidable (_∧_∧_∧_))
theorem gW{P:Nat→Prop}{i:Nat}(h:∀ j,j<i→P j)(hi:P i):∀ j,j<i+1→P j:=fun j hj=>by
 rcases Nat.lt_or_ge j i with h'|h'
 ·exact h j h'
 ·obtain rfl:j=i:=by omega
  exact hi
theorem Ny(n m:Int)(hm: -1000≤m∧m≤1000):Pure Tryz.prog 148 [iv n,iv m] (.v (.bool (decide (n>m∨n< -m)))):=by
 refine abK.p fun σ=> ?_
 repeat'(first|exact .nil|refine .k0 ?_|refine .k1 ?_|refine .k2 ?_|refine .k4 ?_|refine .k7 ?_|refine .r1 ?_ ?_|fail)
 try any_goals(exact Zo)
 all_goals(try simp only[BL]at *)
 ·rw[aW (by omega)]
  (((refine Sx.Fin.intro Zs (bd ?_);(try simp only[BL]at *);(try simp only[dp,dG,dz,Ya]at *)));try omega)
theorem P2(s:af):Pure Tryz.prog 147 [sv s] (.v (.bool (decide (Word s)))):=by
 refine abJ.p fun σ=> ?_
 repeat'(first|exact .nil|refine .k0 ?_|refine .k1 ?_|refine .k2 ?_|refine .k4 ?_|refine .k6 ?_|refine .k7 ?_|refine .k9 ?_|(refine .cd ?_ ?_<;>(intro hc;skip))|refine .r1 ?_ ?_|refine .t5 ?_ ?_ ?_|fail)
 try any_goals(exact Zo)
 all_goals(try simp only[BL]at *)
 ·refine Sx.Fin.intro Zs (bf ?_)
  rintro⟨h1,h2,h3,h4⟩
  simp only[dp,dG,dz]at h3
  omega
 refine cQ (fun n rg σ'=>∃ i:Nat,i≤s.size∧n=s.size-i∧(∀ j,j<i→dz ((bB s j).toNat))∧σ'=σ∧rg=[(0,sv s),(24,iv s.size),(25,iv i)]) s.size rfl ⟨_,_,Zr,Zs,0,ZK _,rfl,fun j hj=>absurd hj (by omega),rfl,rfl⟩ ?_
 rintro n _ _ ⟨i,hi,hn,hp,rfl,rfl⟩
 repeat'(first|exact .nil|refine .k0 ?_|refine .k1 ?_|refine .k2 ?_|refine .k4 ?_|refine .k6 ?_|refine .k7 ?_|refine .k8 ?_|refine .k9 ?_|(refine .cd ?_ ?_<;>(intro hc;skip))|refine .r1 ?_ ?_|refine .t5 ?_ ?_ ?_|fail)
 try any_goals(exact Zo)
 all_goals(try simp only[BL]at *)
 ·refine Sx.Fin.intro Zs (bf ?_)
  rintro⟨h1,h2,h3,h4⟩
  have:=h4 i (by omega)
  simp only[dp,dG,dz]at this
  omega
 ·refine⟨s.size-(i+1),by omega,_,_,Zr,Zs,i+1,by omega,rfl,gW hp ?_,rfl,by rw[aW (by omega)];rfl⟩
  simp only[dp,dG,dz]
  omega
 ·refine Sx.Fin.intro Zs (bt ?_)
  refine⟨by omega,by omega,by simp only[dp,dG,dz];omega,fun j hj=>hp j (by omega)⟩
end Go.Proofs.YtbihckigennlhaaGreatDoor
namespace Go.Proofs
open Go.Shelf
def Tryz.lays156_ren:Go.Shelf.Ren:=⟨fun|156=>70|165=>119|166=>62|169=>64|240=>112|241=>163|276=>157|277=>187|n=>n,fun|31=>128|9=>9|3=>3|4=>4|0=>0|20=>20|72=>113|76=>116|70=>111|37=>22|75=>115|127=>161|164=>188|5=>5|80=>91|n=>n,fun|n=>n⟩
theorem Tryz.lays156:Go.Proofs.Lays.n156 Tryz.prog Tryz.lays156_ren:=Go.Sx.pK
theorem Tryz.Builder_Extra_156:Builder.Extra Tryz.prog Tryz.lays156_ren:={
 sizeBuilder:=by kernel_rfl
 liesBuilder:=by kernel_rfl
 t5:=Tryz.underlying5
 a5:=Tryz.isAgg5
 z5:=Tryz.sizeOf5
 v5:=Tryz.zeroValue5
 infoByte:=by kernel_rfl
 cellsByte:=by kernel_rfl
 sizeByte:=by kernel_rfl
 neB5:=by decide}
open Go.RowKit in
theorem Tryz.strings_Join_none(a:Option Addr)(c:Nat)(sep:ByteArray)(w:World):
  Calls Tryz.prog 70 #[.slice a 0 c,.string sep] w fun e w'=>e= .returned (.string ⟨#[]⟩)∧w'=w:=Any.strings_Join_none Tryz.lays156 Tryz.Builder_Extra_156 a c sep w
open Go.RowKit in
theorem Tryz.strings_Join(bk o c:Nat)(xs:List ByteArray)(sep:ByteArray)(w:World)(sR:∀ (j:Nat) x,xs[j]? =some x→w.cell? ⟨bk,o+j,none⟩=some (.string x))(El:bk<w.heap.size)(hN:xs.length≤140737488355328)(lE:xs.length≤c)(hlen:(Lib.join (xs.map (·.data.toList)) sep.data.toList).length≤140737488355328):
  Calls Tryz.prog 70 #[.slice (some ⟨bk,o,none⟩) xs.length c,.string sep] w fun e w'=>e= .returned (.string ⟨(Lib.join (xs.map (·.data.toList)) sep.data.toList).toArray⟩)∧Below w.heap.size w w':=Any.strings_Join Tryz.lays156 Tryz.Builder_Extra_156 bk o c xs sep w sR El hN lE hlen
def Tryz.lays137_ren:Go.Shelf.Ren:=⟨fun|137=>98|217=>144|266=>137|n=>n,fun|9=>9|5=>5|3=>3|n=>n,fun|n=>n⟩
theorem Tryz.lays137:Go.Proofs.Lays.n137 Tryz.prog Tryz.lays137_ren:=Go.Sx.pK
open Go.RowKit in
theorem Tryz.strings_IndexByte(s:ByteArray)(c:Int)(w:World):
  Calls Tryz.prog 98 #[.string s,.int .u8 c] w fun e w'=>e= .returned (.int .i64 (Lib.indexByte s.data.toList c.toNat.toUInt8))∧w'=w:=Any.strings_IndexByte Tryz.lays137 s c w
def Tryz.lays121_ren:Go.Shelf.Ren:=⟨fun|121=>196|214=>222|n=>n,fun|4=>4|9=>9|n=>n,fun|n=>n⟩
theorem Tryz.lays121:Go.Proofs.Lays.n121 Tryz.prog Tryz.lays121_ren:=Go.Sx.pK
open Go.RowKit in
theorem Tryz.strconv_FormatBool(b:Bool)(w:World):
  Calls Tryz.prog 196 #[.bool b] w fun e w'=>e= .returned (.string ⟨(Lib.formatBool b).toArray⟩)∧w'=w:=Any.strconv_FormatBool Tryz.lays121 b w
def Tryz.laysM171_ren:Go.Shelf.Ren:=⟨fun|171=>71|243=>120|246=>164|283=>188|284=>189|285=>190|286=>191|129=>214|317=>213|318=>215|319=>216|320=>217|337=>231|338=>232|n=>n,fun|3=>3|9=>9|2=>2|4=>4|171=>218|0=>0|53=>210|37=>22|5=>5|173=>221|212=>242|51=>231|20=>20|213=>243|46=>206|232=>268|233=>269|n=>n,fun|17=>7|18=>12|19=>13|n=>n⟩
theorem Tryz.laysM171:Go.Proofs.LaysM.n171 Tryz.prog Tryz.laysM171_ren:=Go.Sx.pK
open Go.RowKit Go.Sort Go.Lib in
theorem Tryz.strconv_Itoa(n:Int)(h0: -9223372036854775808≤n)(h1:n≤9223372036854775807)(w:World)(E4:Lib.TabIs Tryz.prog w "internal/strconv.uint64pow10" .u64 Lib.pow10Tab):
  Calls Tryz.prog 71 #[.int .i64 n] w fun e w'=>e= .returned (.string ⟨(Lib.itoa n).toArray⟩)∧∃ k os,w'=grow (w.drewN k) os:=Any.strconv_Itoa Tryz.laysM171 n h0 h1 w E4
def Tryz.laysC172_ren:Go.Shelf.Ren:=⟨fun|172=>136|244=>175|245=>176|247=>202|279=>203|280=>204|281=>205|282=>206|287=>224|316=>225|171=>71|205=>226|321=>236|322=>237|243=>120|246=>164|283=>188|284=>189|285=>190|286=>191|129=>214|317=>213|318=>215|319=>216|320=>217|337=>231|338=>232|n=>n,fun|9=>9|3=>3|75=>115|76=>116|4=>4|5=>5|167=>225|37=>22|0=>0|85=>226|2=>2|168=>228|53=>210|175=>247|46=>206|210=>251|127=>161|145=>260|143=>258|21=>21|171=>218|173=>221|212=>242|51=>231|20=>20|213=>243|232=>268|233=>269|80=>91|n=>n,fun|15=>8|16=>9|17=>7|18=>12|19=>13|n=>n⟩
theorem Tryz.laysC172:Go.Proofs.LaysC.n172 Tryz.prog Tryz.laysC172_ren:=Go.Sx.pK
open Go.RowKit in
theorem Tryz.strconv_Atoi_ok(s:ByteArray)(nQ:s.size≤9223372036854775806)(v:Int)(h:Lib.atoiAll s.data.toList= .ok v)(w:World):
  Calls Tryz.prog 136 #[.string s] w fun e w'=>e= .returned (.tuple #[.int .i64 v,.nilIface])∧(w'=w∨∃ t,w'=Lib.bytesWorld w 5 t):=Any.strconv_Atoi_ok Tryz.laysC172 s nQ v h w
open Go.RowKit in
theorem Tryz.strconv_Atoi_range(s:ByteArray)(ya:s.size≤281474976710656)(h:Lib.atoiAll s.data.toList= .range)(ev:Value)(w:World)(hv:w.cell? ⟨9,0,none⟩=some ev)(Ey:ev= .nilIface∨∃ te pe,ev= .iface te pe):
  Calls Tryz.prog 136 #[.string s] w fun e w'=>∃ N,e= .returned (.tuple #[.int .i64 (Lib.atoiSat s.data.toList),.iface 228 (.pointer (some ⟨N,0,none⟩))])∧w.heap.size≤N∧w'.heap[N]? =some (.cells #[.string ⟨#[65,116,111,105]⟩,.string s,ev] 251 (0,0))∧Below w.heap.size w w':=Any.strconv_Atoi_range Tryz.laysC172 s ya h ev w hv Ey
def Tryz.lays144_ren:Go.Shelf.Ren:=⟨fun|144=>165|143=>192|219=>218|217=>144|225=>143|224=>179|267=>233|266=>137|314=>249|n=>n,fun|9=>9|4=>4|3=>3|5=>5|46=>206|146=>270|51=>231|n=>n,fun|1=>3|n=>n⟩
theorem Tryz.lays144:Go.Proofs.Lays.n144 Tryz.prog Tryz.lays144_ren:=Go.Sx.pK
open Go.RowKit Go.Lib in
theorem Tryz.strings_Contains_one(s:ByteArray)(c:UInt8)(w:World):
  Calls Tryz.prog 165 #[.string s,.string ⟨#[c]⟩] w fun e w'=>e= .returned (.bool (decide (0≤Lib.indexByte s.data.toList c)))∧w'=w:=Any.strings_Contains_one Tryz.lays144 s c w
open Go.RowKit Go.Lib in
theorem Tryz.strings_Contains(s sub:ByteArray)(m:Int)(w:World)(hs:s.size<4294967281)(hm:w.cell? ⟨3,0,none⟩=some (.int .i64 m)):
  Calls Tryz.prog 165 #[.string s,.string sub] w fun e w'=>e= .returned (.bool (Lib.contains s.data.toList sub.data.toList))∧w'=w:=Any.strings_Contains Tryz.lays144 s sub m w hs hm
def Tryz.lays187_ren:Go.Shelf.Ren:=⟨fun|187=>94|255=>134|n=>n,fun|37=>22|5=>5|3=>3|n=>n,fun|n=>n⟩
theorem Tryz.lays187:Go.Proofs.Lays.n187 Tryz.prog Tryz.lays187_ren:=Go.Sx.pK
theorem Tryz.bytes_IndexByte(b o n c:Nat)(xs:List Int)(cv:Int)(w:World)(hx:xs.length=n)(hc:∀ i,i<n→w.cell? ⟨b,o+i,none⟩=some (.int .u8 (xs.getD i 0))):
  Calls Tryz.prog 94 #[.slice (some ⟨b,o,none⟩) n c,.int .u8 cv] w fun e w'=>e= .returned (.int .i64 (Lib.indexByte (Lib.bytesOf xs) cv.toNat.toUInt8))∧w'=w:=Any.bytes_IndexByte Tryz.lays187 b o n c xs cv w hx hc
end Go.Proofs
set_option linter.unusedVariables false
namespace Go.Proofs.YtbihckigennlhaaGreatDoor
open Go.Sx Go.Proofs Go.RowKit
theorem zG{M:Mem}{s:af}{v:Value}(h:R M (sv s) v):v= .string s:=h.az
theorem MW{M:Mem}{w0:Base}{w:World}{σ:Store}(hI:Inv Tryz.prog M w0 σ w):∃ m,w.cell? ⟨3,0,none⟩=some (.int .i64 m):=by
 obtain⟨b,off,cs,hv,hM,hR⟩:=(hI.gl 3 [.ai .i64] rfl).ot
 cases hv
 obtain⟨n,hn⟩:=(hR 0 (by simp)).ac8
 have h1:=hI.dB _ _ _ (hM 0 (by simp))
 have hn:cs 0= .int .i64 n:=hn
 rw[hn]at h1
 exact⟨n,h1⟩
theorem U6(s:af)(c:UInt8):Pure Tryz.prog 165 [sv s,sv ⟨#[c]⟩] (.v (.bool (decide (0≤Lib.indexByte s.data.toList c)))):=by
 refine Pure.shelf fun M w0 w σ cs hI hR=> ?_
 obtain⟨v1,vs,rfl,h1,h2⟩:=hR.cN
 obtain⟨v2,rfl,h3⟩:=h2.dV
 obtain rfl:=zG h1
 obtain rfl:=zG h3
 exact(Tryz.strings_Contains_one s c w).mono fun e w' ⟨he,hw⟩=>⟨⟨_,he,.v _⟩,by rw[hw];exact Below.refl _ _⟩
theorem U5(s t:af)(hs:s.size<4294967281):Pure Tryz.prog 165 [sv s,sv t] (.v (.bool (Lib.contains s.data.toList t.data.toList))):=by
 refine Pure.shelf fun M w0 w σ cs hI hR=> ?_
 obtain⟨v1,vs,rfl,h1,h2⟩:=hR.cN
 obtain⟨v2,rfl,h3⟩:=h2.dV
 obtain rfl:=zG h1
 obtain rfl:=zG h3
 obtain⟨m,hm⟩:=MW hI
 exact(Tryz.strings_Contains s t m w hs hm).mono fun e w' ⟨he,hw⟩=>⟨⟨_,he,.v _⟩,by rw[hw];exact Below.refl _ _⟩
theorem WH(b:Bool):Pure Tryz.prog 196 [.v (.bool b)] (sv ⟨(Lib.formatBool b).toArray⟩):=by
 refine Pure.shelf fun M w0 w σ cs hI hR=> ?_
 obtain⟨v1,rfl,h1⟩:=hR.dV
 obtain rfl:=h1.az
 exact(Tryz.strconv_FormatBool b w).mono fun e w' ⟨he,hw⟩=>⟨⟨_,he,.v _⟩,by rw[hw];exact Below.refl _ _⟩
theorem TQ(w:World)(n:Nat)(os:Array Obj):Below w.heap.size w (Go.Sort.grow (w.drewN n) os):=
 ⟨rfl,rfl,rfl,by simp[Go.Sort.grow,World.drewN],fun k hk=>by show(w.heap++os)[k]? =_;rw[X4 hk]⟩
def kJ(n:Int):af:=⟨(Lib.itoa n).toArray⟩
theorem vD(n:Int)(h: -9223372036854775808≤n∧n≤9223372036854775807):Pure Tryz.prog 71 [iv n] (sv (kJ n)):=by
 refine Pure.shelf fun M w0 w σ cs hI hR=> ?_
 obtain⟨v1,rfl,h1⟩:=hR.dV
 obtain rfl:=h1.az
 have E4:Lib.TabIs Tryz.prog w "internal/strconv.uint64pow10" .u64 Lib.pow10Tab:=by
  obtain⟨g1,g2⟩:=hI.gw
  have hg:Tryz.prog.globalNamed "internal/strconv.uint64pow10" =some 7:=by kernel_rfl
  unfold Lib.TabIs World.var? at g1 ⊢
  rw[hg]at g1 ⊢
  simp only[Option.bind_some]at g1 ⊢
  rw[hI.old _ g2]
  exact g1
 refine(Tryz.strconv_Itoa n h.1 h.2 w E4).mono fun e w' ⟨he,k,os,hw⟩=>⟨⟨_,he,.v _⟩,?_⟩
 rw[hw]
 exact TQ w k os
def tj(ws:List af)(sep:af):af:=⟨(Lib.join (ws.map (·.data.toList)) sep.data.toList).toArray⟩
theorem yB(ws:List af)(sep:af)(nn:Bool)(hN:ws.length≤140737488355328)(hlen:(Lib.join (ws.map (·.data.toList)) sep.data.toList).length≤140737488355328):
  Pure Tryz.prog 70 [.sl nn 1 (ws.map dL),sv sep] (sv (tj ws sep)):=by
 refine Pure.shelf fun M w0 w σ cs hI hR=> ?_
 obtain⟨v1,vs,rfl,h1,h2⟩:=hR.cN
 obtain⟨v2,rfl,h3⟩:=h2.dV
 obtain rfl:=zG h3
 rcases h1.pD with⟨a,_,h,rfl⟩|⟨b,off,cap,cs,rfl,hr,h4,h5⟩
 ·have:ws=[]:=by simpa using h
  subst this
  exact(Tryz.strings_Join_none a 0 sep w).mono fun e w' ⟨he,hw⟩=>⟨⟨_,he,.v _⟩,by rw[hw];exact Below.refl _ _⟩
 ·cases ws with
  |nil=>exact(Tryz.strings_Join_none (some ⟨b,off,none⟩) cap sep w).mono fun e w' ⟨he,hw⟩=>⟨⟨_,he,.v _⟩,by rw[hw];exact Below.refl _ _⟩
  |cons x ws=>
   have sR:∀ (j:Nat) y,(x::ws)[j]? =some y→w.cell? ⟨b,off+j,none⟩=some (.string y):=fun j y hy=>by
    obtain⟨hj,e⟩:=ZN.1 hy
    have ef:j<((x::ws).map dL).length:=by simpa using hj
    have h6:=hI.dB _ _ _ (hr.mem j (by simpa using hj))
    have e2:((x::ws).map dL)[j]=[sv y]:=by rw[Zg,e];rfl
    have h7:=hr.rel j ef 0 (by rw[e2];simp)
    simp only[e2,YI,XU,YN]at h7
    rw[h6,h7.az]
   have El:b<w.heap.size:=by
    have:=World.block_lt_of_cell? _ _ (sR 0 x rfl)
    simpa using this
   have:=Tryz.strings_Join b off cap (x::ws) sep w sR El hN (by simpa using h4) hlen
   simp only[Z3]at this ⊢
   exact this.mono fun e w' ⟨he,hw⟩=>⟨⟨_,he,.v _⟩,hw⟩
end Go.Proofs.YtbihckigennlhaaGreatDoor
set_option linter.unusedSimpArgs false
set_option maxRecDepth 100000
namespace Go.Proofs.YtbihckigennlhaaGreatDoor
open Go.Sx Go.Proofs
def qU:List (List UInt8):=[[116,97,98,108,101],[102,101,97,116,117,114,101],[111,102],[107,101,101,112],[98,111,111,108],[116,101,120,116],[107,101,121],[105,110,116],[100,101,99],[105,102],[116,104,101,110],[101,108,115,101],[100,101,102,97,117,108,116],[111,114],[97,110,100],[110,111,116],[116,114,117,101],[102,97,108,115,101],[110,117,108,108],
 [99,111,117,110,116],[115,117,109],[109,101,97,110],[109,105,110],[109,97,120],[102,105,114,115,116],[108,97,115,116],[100,105,115,116,105,110,99,116],[113,117,97,110,116,105,108,101],[100,101,99,97,121],[97,108,108],[115,108,105,100,105,110,103],[116,117,109,98,108,105,110,103],[115,101,115,115,105,111,110],[119,104,101,114,101]]
def KW(s:af):Prop:=s.data.toList∈qU
instance (s:af):Decidable (KW s):=inferInstanceAs (Decidable (_∈_))
def Name(s:af):Prop:=Word s∧¬KW s
instance (s:af):Decidable (Name s):=inferInstanceAs (Decidable (_∧_))
def pO:List (List UInt8)→List UInt8
 |[]=>[32]
 |w::ws=>32::w++pO ws
theorem Mg(s:List UInt8)(hs:(32:UInt8)∉s)(pj:s≠[]):∀ (ws:List (List UInt8)),(∀ w∈ws,(32:UInt8)∉w)→((32::s++[32]) <:+: pO ws↔s∈ws)
 |[],_=>by
  simp only[pO,Yj,iff_false]
  intro h
  have:=h.length_le
  simp at this
 |w::ws,hw=>by
  have ih:=Mg s hs pj ws (fun x hx=>hw x (by simp[hx]))
  have mK:=hw w (by simp)
  have eZ:∃ t,pO ws=32::t:=by cases ws<;>exact⟨_,rfl⟩
  obtain⟨t,ht⟩:=eZ
  rw[ZV,← ih]
  simp only[pO,ZD]
  rw[List.infix_cons_iff]
  constructor
  ·rintro(h|h)
   ·left
    rw[Yr]at h
    have h:=h.2
    rw[ht]at h
    have key:∀ (s w t:List UInt8),(32:UInt8)∉s→(32:UInt8)∉w→s++[32] <+: w++32::t→s=w:=by
     intro s
     induction s with
     |nil=>
      intro w t _ hw h
      cases w with
      |nil=>rfl
      |cons a w=>
       simp only[Ze,ZD,Yr]at h
       exact absurd (by rw[h.1];simp) hw
     |cons a s ih=>
      intro w t hs hw h
      cases w with
      |nil=>
       simp only[Ze,ZD,Yr]at h
       exact absurd (by rw[h.1];simp) hs
      |cons b w=>
       simp only[ZD,Yr]at h
       rw[h.1,ih w t (fun x=>hs (by simp[x])) (fun x=>hw (by simp[x])) h.2]
    exact key s w t hs mK h
   ·right
    have key:∀ (w:List UInt8),(32:UInt8)∉w→(32::s++[32]) <:+: w++pO ws→(32::s++[32]) <:+: pO ws:=by
     intro w
     induction w with
     |nil=>intro _ h;exact h
     |cons a w ih2=>
      intro hw h
      simp only[ZD]at h
      rw[List.infix_cons_iff]at h
      rcases h with h|h
      ·rw[Yr]at h
       exact absurd (by rw[h.1];simp) hw
      ·exact ih2 (fun x=>hw (by simp[x])) h
    exact key w mK h
  ·rintro(rfl|h)
   ·left
    rw[Yr]
    refine⟨rfl,?_⟩
    rw[ht]
    exact⟨t,by simp⟩
   ·right
    exact h.trans (List.suffix_append _ _).isInfix
theorem Mf(t:List UInt8):∀ s:List UInt8,0≤Lib.index s t↔t <:+: s
 |[]=>by
  unfold Lib.index
  cases t with
  |nil=>simp
  |cons a t=>simp
 |b::s=>by
  have ih:=Mf t s
  rw[List.infix_cons_iff,← ih]
  have hg:=Lib.index_ge s t
  have e0:Lib.index (b::s) t=if t.isPrefixOf (b::s)then 0 else if Lib.index s t == -1 then -1 else Lib.index s t+1:=rfl
  rw[e0]
  cases h:t.isPrefixOf (b::s)with
  |true=>simp only[Y7];exact⟨fun _=> .inl (List.isPrefixOf_iff_prefix.1 h),fun _=>by decide⟩
  |false=>
   have hn:¬t <+: b::s:=fun hp=>by rw[List.isPrefixOf_iff_prefix.2 hp]at h;cases h
   simp only[ZS,Zt]
   split
   ·rename_i e
    have e:Lib.index s t= -1:=by simpa using e
    simp only[e]
    exact⟨fun h=>absurd h (by decide),fun h=>h.elim (fun h=>absurd h hn) (fun h=>absurd h (by decide))⟩
   ·rename_i e
    have e:Lib.index s t≠-1:=by simpa using e
    exact⟨fun _=> .inr (by omega),fun _=>by omega⟩
theorem Fh(c:UInt8):∀ s:List UInt8,0≤Lib.indexByte s c↔c∈s
 |[]=>by simp[Lib.indexByte]
 |b::s=>by
  have ih:=Fh c s
  have hg:=Lib.indexByte_ge s c
  rw[ZV,← ih]
  have e0:Lib.indexByte (b::s) c=if b == c then 0 else if Lib.indexByte s c == -1 then -1 else Lib.indexByte s c+1:=rfl
  rw[e0]
  by_cases h:b=c
  ·subst h;simp
  ·have h':(b == c)=false:=by simpa using h
   rw[h']
   simp only[ZS,Zt]
   split
   ·rename_i e
    have e:Lib.indexByte s c= -1:=by simpa using e
    simp only[e]
    exact⟨fun h=>absurd h (by decide),fun hh=>hh.elim (fun e=>absurd e.symm h) (fun h=>absurd h (by decide))⟩
   ·rename_i e
    have e:Lib.indexByte s c≠-1:=by simpa using e
    exact⟨fun _=> .inr (by omega),fun _=>by omega⟩
theorem aci(s:af)(h0:s.data.toList≠[])(hs:(32:UInt8)∉s.data.toList):Lib.contains (pO qU) (32::s.data.toList++[32])=decide (KW s):=by
 have h:=Mg s.data.toList hs h0 qU (by decide)
 rw[YD,decide_eq_true_iff]
 unfold Lib.contains
 rw[decide_eq_true_iff,Mf]
 exact h
theorem acg{s:af}(h:(32:UInt8)∈s.data.toList):¬KW s:=fun hk=>by
 have:∀ w∈qU,(32:UInt8)∉w:=by decide
 exact this _ hk h
theorem ach{s:af}(h:s.data.toList=[]):¬KW s:=fun hk=>by
 have:∀ w∈qU,w≠[]:=by decide
 exact this _ hk h
theorem pQ{a b:af}(h:a.data.toList=b.data.toList):a=b:=by
 cases a;cases b;congr 1;exact YP h
theorem Gw{s:af}:s=⟨#[]⟩↔s.data.toList=[]:=⟨fun h=>by rw[h],fun h=>pQ h⟩
theorem aBD(a b:af):(a++b).data.toList=a.data.toList++b.data.toList:=by simp
theorem pR(a:af):a.size=a.data.toList.length:=rfl
theorem My(s:af)(hs:s.size≤1000):Pure Tryz.prog 121 [sv s] (.v (.bool (decide (KW s)))):=by
 refine abv.p fun σ=> ?_
 repeat'(first|exact .nil|refine .k0 ?_|refine .k1 ?_|refine .k2 ?_|refine .k4 ?_|refine .k7 ?_|refine .r1 ?_ ?_|refine .an rfl (by intro bx;first|exact U6 _ _|exact U5 _ _ (by decide)) ?_ ?_|fail)
 all_goals(try simp only[BL]at *)
 ·intro _
  simp only[ByteArray.size_append]
  have h1:(⟨#[32]⟩:af).size=1:=rfl
  omega
 ·intro _
  have h1:(⟨#[32]⟩:af).size=1:=rfl
  omega
 refine Sx.Fin.intro Zs ?_
 congr 2
 have e1:(⟨#[32]⟩++s++⟨#[32]⟩:af).data.toList=32::s.data.toList++[32]:=by simp[aBD]
 rw[e1]
 have e2:Lib.contains (pO qU) (32::s.data.toList++[32])=Lib.contains _ (32::s.data.toList++[32]):=rfl
 by_cases h0:s.data.toList=[]
 ·rw[Zp (ach h0),Zi (Gw.2 h0)];rfl
 ·by_cases h1:(32:UInt8)∈s.data.toList
  ·rw[Zp (acg h1),Zi ((Fh _ _).2 h1)];simp
  ·rw[← aci s h0 h1,Zp (fun h=>h0 (Gw.1 h)),Zp (fun h=>h1 ((Fh _ _).1 h))]
   simp only[XP,Bool.true_and]
   rfl
theorem tR{s:af}:s.size=0↔s=⟨#[]⟩:=by
 rw[Gw,pR];exact List.length_eq_zero_iff
theorem acQ(s:af)(KD:s.size≤24):Pure Tryz.prog 72 [sv s] (.v (.bool (decide (Name s)))):=by
 refine Mv.p fun σ=> ?_
 repeat'(first|exact .nil|refine .k0 ?_|refine .k1 ?_|refine .k2 ?_|refine .k4 ?_|refine .k6 ?_|refine .k7 ?_|refine .k9 ?_|(refine .cd ?_ ?_<;>(intro hc;skip))|refine .r1 ?_ ?_|refine .an rfl (by intro bx;first|exact My _ (by first|omega|fail)|fail) ?_ ?_|fail)
 try any_goals(exact Zo)
 all_goals(try simp only[BL]at *)
 ·refine Sx.Fin.intro Zs (bf ?_)
  rintro⟨⟨h1,_⟩,h2⟩
  rcases hc with(hc|hc)|hc
  ·have:=tR.2 hc;omega
  ·omega
  ·exact h2 hc
 have aQ:s.size≠0:=fun h=>hc.1.1 (tR.1 h)
 refine cQ (fun n rg σ'=>∃ i:Nat,i≤s.size∧n=s.size-i∧(0<i→dp (bB s 0).toNat)∧(∀ j,j<i→dz (bB s j).toNat)∧σ'=σ∧rg=[(0,sv s),(17,iv s.size),(18,iv i)]) s.size rfl ⟨_,_,Zr,Zs,0,ZK _,rfl,fun h=>absurd h (by omega),fun j hj=>absurd hj (by omega),rfl,rfl⟩ ?_
 rintro n _ _ ⟨i,hi,hn,ER,hp,rfl,rfl⟩
 repeat'(first|exact .nil|refine .k0 ?_|refine .k1 ?_|refine .k2 ?_|refine .k4 ?_|refine .k6 ?_|refine .k7 ?_|refine .k8 ?_|refine .k9 ?_|(refine .cd ?_ ?_<;>(intro hc;skip))|refine .r1 ?_ ?_|refine .t5 ?_ ?_ ?_|fail)
 try any_goals(exact Zo)
 all_goals(try simp only[BL]at *)
 ·refine⟨s.size-(i+1),by omega,_,_,Zr,Zs,i+1,by omega,rfl,fun _=> ?_,gW hp (.inl (by simp only[dp];omega)),rfl,by rw[aW (by omega)];rfl⟩
  by_cases h0:i=0
  ·subst h0;simp only[dp];omega
  ·exact ER (by omega)
 ·refine⟨s.size-(i+1),by omega,_,_,Zr,Zs,i+1,by omega,rfl,fun _=>ER (by omega),gW hp ?_,rfl,by rw[aW (by omega)];rfl⟩
  simp only[dp,dG,dz];omega
 ·refine Sx.Fin.intro Zs (bf ?_)
  rintro⟨⟨_,_,h0,h1⟩,_⟩
  have h2:=h1 i (by omega)
  by_cases h3:i=0
  ·subst h3;simp only[dp,dG,dz]at *;omega
  ·simp only[dp,dG,dz]at *;omega
 ·refine Sx.Fin.intro Zs (bt ?_)
  exact⟨⟨by omega,KD,ER (by omega),fun j hj=>hp j (by omega)⟩,by rename_i h1 _;exact h1.2⟩
theorem acP(s:af)(KD:¬s.size≤24):Pure Tryz.prog 72 [sv s] (.v (.bool (decide (Name s)))):=by
 refine Mv.p fun σ=> ?_
 repeat'(first|exact .nil|refine .k0 ?_|refine .k1 ?_|refine .k2 ?_|refine .k4 ?_|refine .k6 ?_|refine .k7 ?_|refine .k9 ?_|(refine .cd ?_ ?_<;>(intro hc;skip))|refine .r1 ?_ ?_|refine .an rfl (by intro bx;first|exact My _ (by(simp only[BL]at *;omega))|fail) ?_ ?_|fail)
 try any_goals(exact Zo)
 all_goals(try simp only[BL]at *)
 ·refine Sx.Fin.intro Zs (bf ?_)
  rintro⟨⟨_,h2,_⟩,_⟩
  omega
 ·exfalso
  omega
theorem vR(s:af):Pure Tryz.prog 72 [sv s] (.v (.bool (decide (Name s)))):=by
 by_cases h:s.size≤24
 ·exact acQ s h
 ·exact acP s h
end Go.Proofs.YtbihckigennlhaaGreatDoor
