/- The data of the printer's statements: expressions, types, tables, as values and as cells. -/
import Derived.Test.YtcccbdelfhgmlaaGreatDoorGi
import Derived.Test.YtcccbdelfhgmlaaGreatDoorCodeA
import Derived.Test.YtcccbdelfhgmlaaGreatDoorCodeB
import Derived.Shelf.Strings.Builder1
import Derived.Shelf.Strings.Builder2
import Derived.Shelf.Strings.OnBuilder
import Derived.Shelf.Small.Utf8
import Derived.Shelf.Small.Bits
import Derived.Shelf.Small.Strs
import Derived.Shelf.Small.Wraps
import Derived.Shelf.Strings.BuilderF
import Derived.Shelf.Strings.BuilderK
import Derived.Shelf.Strings.Builder2Cap
import Derived.Shelf.Strconv.Atoi
import Derived.Shelf.Strconv.Itoa0
import Derived.Shelf.Strconv.Itoa1
import Derived.Shelf.LaysM
import Derived.Shelf.Strconv.Itoa2
import Derived.Shelf.Strconv.Itoa3
import Derived.Shelf.Strconv.AtoiErrFast
import Derived.Shelf.Strconv.ParseIntEmpty
import Derived.Shelf.Strconv.AtoiFail
import Derived.Shelf.Strconv.Clone
import Derived.Shelf.Strconv.SyntaxError
import Derived.Shelf.LaysC
import Derived.Shelf.Strconv.ToError
import Derived.Shelf.Strconv.AtoiErr
import Derived.Shelf.Strconv.ErrVar
import Derived.Shelf.Strconv.Lower
import Derived.Shelf.Strconv.ParseUint10
import Derived.Shelf.Strconv.ParseUint10Empty
import Derived.Shelf.Strconv.ParseUint10Any
import Derived.Shelf.Strconv.ParseInt10
import Derived.Shelf.Strconv.AtoiLong
import Derived.Shelf.Strconv.AtoiInnerAll
import Derived.Shelf.Strconv.RangeError
import Derived.Shelf.Strconv.ToErrorRange
import Derived.Shelf.Strconv.AtoiAll
import Derived.Shelf.Strconv.ErrVarAll
import Derived.Shelf.Strconv.ParseUintEmpty
import Derived.Shelf.Strconv.ParseUint10b64
import Derived.Shelf.Strconv.ParseUint10b32
import Derived.Shelf.Strconv.ParseUint10b16
import Derived.Shelf.Strconv.ParseUint10b8
import Derived.Shelf.Strings.Search1
import Derived.Shelf.Strings.Search2
import Derived.Shelf.Strings.Search3
import Derived.Shelf.Strings.Shaped
import Derived.Shelf.Strings.BuilderCap
import Derived.Shelf.Bytes.IndexByte
import Derived.Test.YtcccbdelfhgmlaaGreatDoorSxX
import Derived.Test.YtcccbdelfhgmlaaGreatDoorChecked
import Derived.Test.YtcccbdelfhgmlaaGreatDoorSxZ
import Derived.Lib.Join
import Derived.Lib.Small
import Derived.Lib.IndexMore
namespace Go.Proofs.YtcccbdelfhgmlaaGreatDoor
open Go.Sx Go.Proofs
structure ar where
 name:ae
 exp:Int
deriving DecidableEq,Inhabited
def ar.cells(f:ar):List AV:=[sv f.name,iv f.exp]
structure eP where
 kind:Int
 n:Int
 s:ae
deriving DecidableEq,Inhabited
def eP.cells(v:eP):List AV:=[iv v.kind,iv v.n,sv v.s]
structure gu where
 kind:Int
 size:Int
deriving DecidableEq,Inhabited
def gu.cells(w:gu):List AV:=[iv w.kind,iv w.size]
structure Ty where
 kind:Int
 unit:List ar
 of:ae
deriving DecidableEq,Inhabited
def Ty.cells(t:Ty):List AV:=[iv t.kind,.sl false 2 (t.unit.map ar.cells),sv t.of]
inductive Ex where
 |mk (kind:Int) (op name table:ae) (val:eP) (unit:List ar) (param:Int) (win:gu) (args:List Ex)
deriving Inhabited
def Ex.kind:Ex→Int| .mk k _ _ _ _ _ _ _ _=>k
def Ex.op:Ex→ae| .mk _ o _ _ _ _ _ _ _=>o
def Ex.name:Ex→ae| .mk _ _ n _ _ _ _ _ _=>n
def Ex.table:Ex→ae| .mk _ _ _ t _ _ _ _ _=>t
def Ex.val:Ex→eP| .mk _ _ _ _ v _ _ _ _=>v
def Ex.unit:Ex→List ar| .mk _ _ _ _ _ u _ _ _=>u
def Ex.param:Ex→Int| .mk _ _ _ _ _ _ p _ _=>p
def Ex.win:Ex→gu| .mk _ _ _ _ _ _ _ w _=>w
def Ex.args:Ex→List Ex| .mk _ _ _ _ _ _ _ _ ks=>ks
mutual
def Ex.cells:Ex→List AV
 | .mk k o n t v u p w ks=>[iv k,sv o,sv n,sv t,iv v.kind,iv v.n,sv v.s,.sl false 2 (u.map ar.cells),iv p,iv w.kind,iv w.size,.sl false 12 (Ex.Dk ks)]
def Ex.Dk:List Ex→List (List AV)
 |[]=>[]
 |x::l=>x.cells::Ex.Dk l
end
theorem Ex.Ob:∀ l:List Ex,Ex.Dk l=l.map Ex.cells
 |[]=>rfl
 |x::l=>by rw[Ex.Dk,Ex.Ob l];rfl
def Ex.row(x:Ex):List AV:=[iv x.kind,sv x.op,sv x.name,sv x.table,iv x.val.kind,iv x.val.n,sv x.val.s,.sl false 2 (x.unit.map ar.cells),iv x.param,iv x.win.kind,iv x.win.size,.sl false 12 (x.args.map Ex.cells)]
theorem Ex.j1:Ex.cells=Ex.row:=funext fun x=>by
 cases x
 simp only[Ex.cells,Ex.row,Ex.Ob,Ex.kind,Ex.op,Ex.name,Ex.table,Ex.val,Ex.unit,Ex.param,Ex.win,Ex.args]
theorem Ex.eT(x:Ex):x.row=[iv x.kind,sv x.op,sv x.name,sv x.table,iv x.val.kind,iv x.val.n,sv x.val.s,.sl false 2 (x.unit.map ar.cells),iv x.param,iv x.win.kind,iv x.win.size,.sl false 12 (x.args.map Ex.row)]:=by
 rw[← Ex.j1]
 have:=congrFun Ex.j1 x
 rw[this]
 rfl
mutual
def Ex.size:Ex→Nat
 | .mk _ _ _ _ _ _ _ _ ks=>1+Ex.cR ks
def Ex.cR:List Ex→Nat
 |[]=>0
 |x::l=>x.size+Ex.cR l
end
mutual
def Ex.depth:Ex→Nat
 | .mk _ _ _ _ _ _ _ _ ks=>Ex.jG ks+1
def Ex.jG:List Ex→Nat
 |[]=>0
 |x::l=>max x.depth (Ex.jG l)
end
theorem Ex.wh(x:Ex):x.size=1+Ex.cR x.args:=by cases x;rfl
theorem Ex.acS(x:Ex):x.depth=Ex.jG x.args+1:=by cases x;rfl
theorem Ex.size_pos(x:Ex):0<x.size:=by rw[Ex.wh];omega
theorem Ex.Uk{l:List Ex}{y:Ex}(h:y∈l):y.size≤Ex.cR l:=by
 induction l with
 |nil=>cases h
 |cons x l ih=>
  rw[Ex.cR]
  rcases ZV.1 h with rfl|h
  ·omega
  ·have:=ih h;omega
theorem Ex.Cr{x y:Ex}(h:y∈x.args):y.size<x.size:=by
 have:=Ex.Uk h
 rw[Ex.wh x];omega
theorem Ex.Ul{l:List Ex}{i:Nat}(h:i<l.length):Ex.cR (l.take (i+1))=Ex.cR (l.take i)+(l.getD i default).size:=by
 induction l generalizing i with
 |nil=>simp at h
 |cons x l ih=>
  cases i with
  |zero=>simp[Ex.cR]
  |succ i=>
   have:=ih (i:=i) (by simpa using h)
   simp only[Yc,Ex.cR,XO,this]
   omega
theorem Ex.Um(l:List Ex)(i:Nat):Ex.cR (l.take i)≤Ex.cR l:=by
 induction l generalizing i with
 |nil=>simp
 |cons x l ih=>
  cases i with
  |zero=>simp[Ex.cR]
  |succ i=>simp only[Yc,Ex.cR];have:=ih i;omega
theorem Ex.acR{l:List Ex}{i:Nat}(h:i<l.length):Ex.jG (l.take (i+1))=max (Ex.jG (l.take i)) (l.getD i default).depth:=by
 induction l generalizing i with
 |nil=>simp at h
 |cons x l ih=>
  cases i with
  |zero=>simp[Ex.jG]
  |succ i=>
   have:=ih (i:=i) (by simpa using h)
   simp only[Yc,Ex.jG,XO,this]
   omega
mutual
theorem Ex.OI:∀ x:Ex,x.depth≤x.size
 | .mk _ _ _ _ _ _ _ _ ks=>by rw[Ex.depth,Ex.size];have:=Ex.OH ks;omega
theorem Ex.OH:∀ l:List Ex,Ex.jG l≤Ex.cR l
 |[]=>ZR _
 |x::l=>by rw[Ex.jG,Ex.cR];have:=Ex.OI x;have:=Ex.OH l;omega
end
theorem Ex.ind{C:Ex→Prop}(h:∀ x,(∀ y∈x.args,C y)→C x)(x:Ex):C x:=by
 have:∀ n x,Ex.size x≤n→C x:=by
  intro n
  induction n with
  |zero=>intro x hx;have:=Ex.size_pos x;omega
  |succ n ih=>intro x hx;exact h x fun y hy=>ih y (by have:=Ex.Cr hy;omega)
 exact this x.size x (ZR _)
structure jX where
 name:ae
 type:Ty
deriving DecidableEq,Inhabited
def jX.cells(f:jX):List AV:=[sv f.name,iv f.type.kind,.sl false 2 (f.type.unit.map ar.cells),sv f.type.of]
structure gV where
 name:ae
 nT:ae
 fields:List jX
 keep:Int
deriving DecidableEq,Inhabited
def gV.cells(t:gV):List AV:=[sv t.name,sv t.nT,.sl false 4 (t.fields.map jX.cells),iv t.keep]
structure aq where
 name:ae
 nT:ae
 type:Ty
 body:Ex
 version:Int
deriving Inhabited
def aq.cells(f:aq):List AV:=[sv f.name,sv f.nT,iv f.type.kind,.sl false 2 (f.type.unit.map ar.cells),sv f.type.of,iv f.body.kind,sv f.body.op,sv f.body.name,sv f.body.table,iv f.body.val.kind,iv f.body.val.n,sv f.body.val.s,.sl false 2 (f.body.unit.map ar.cells),iv f.body.param,iv f.body.win.kind,iv f.body.win.size,.sl false 12 (f.body.args.map Ex.cells),iv f.version]
structure qA where
 tables:List gV
 features:List aq
deriving Inhabited
def qA.cells(m:qA):List AV:=[.sl false 4 (m.tables.map gV.cells),.sl false 18 (m.features.map aq.cells)]
set_option linter.unusedSimpArgs false
set_option linter.unusedVariables false
set_option maxRecDepth 100000
def gU(c:Nat):Prop:=97≤c∧c≤122
instance (c:Nat):Decidable (gU c):=inferInstanceAs (Decidable (_∧_))
def gr(c:Nat):Prop:=48≤c∧c≤57
instance (c:Nat):Decidable (gr c):=inferInstanceAs (Decidable (_∧_))
def jD(c:Nat):Prop:=gU c∨gr c∨c=95
instance (c:Nat):Decidable (jD c):=inferInstanceAs (Decidable (_∨_))
def Word(s:ae):Prop:=1≤s.size∧s.size≤24∧gU ((bZ s 0).toNat)∧∀ i,i<s.size→jD ((bZ s i).toNat)
instance (s:ae):Decidable (Word s):=inferInstanceAs (Decidable (_∧_∧_∧_))
theorem nS{P:Nat→Prop}{i:Nat}(h:∀ j,j<i→P j)(hi:P i):∀ j,j<i+1→P j:=fun j hj=>by
 rcases X6 j i with h'|h'
 ·exact h j h'
 ·obtain rfl:j=i:=by omega
  exact hi
theorem S4(n m:Int)(hm: -1000≤m∧m≤1000):Pure Tryz.prog 123 [iv n,iv m] (.v (.bool (decide (n>m∨n< -m)))):=by
 refine afL.p fun σ=> ?_
 repeat'(first|exact .nil|refine .k0 ?_|refine .k1 ?_|refine .k2 ?_|refine .k4 ?_|refine .k7 ?_|refine .r1 ?_ ?_|fail)
 try any_goals(exact Zo)
 all_goals(try simp only[BL]at *)
 ·rw[bG (by omega)]
  (((refine Sx.Fin.intro Zs (bd ?_);(try simp only[BL]at *);(try simp only[gU,gr,jD,and_assoc]at *)));try omega)
theorem VG(s:ae):Pure Tryz.prog 122 [sv s] (.v (.bool (decide (Word s)))):=by
 refine afK.p fun σ=> ?_
 repeat'(first|exact .nil|refine .k0 ?_|refine .k1 ?_|refine .k2 ?_|refine .k4 ?_|refine .k6 ?_|refine .k7 ?_|refine .k9 ?_|(refine .cd ?_ ?_<;>(intro hc;skip))|refine .r1 ?_ ?_|refine .t5 ?_ ?_ ?_|fail)
 try any_goals(exact Zo)
 all_goals(try simp only[BL]at *)
 ·refine Sx.Fin.intro Zs (bf ?_)
  rintro⟨h1,h2,h3,h4⟩
  simp only[gU,gr,jD]at h3
  omega
 refine dU (fun n rg σ'=>∃ i:Nat,i≤s.size∧n=s.size-i∧(∀ j,j<i→jD ((bZ s j).toNat))∧σ'=σ∧rg=[(0,sv s),(24,iv s.size),(25,iv i)]) s.size rfl ⟨_,_,Zr,Zs,0,ZH _,rfl,fun j hj=>absurd hj (by omega),rfl,rfl⟩ ?_
 rintro n _ _ ⟨i,hi,hn,hp,rfl,rfl⟩
 repeat'(first|exact .nil|refine .k0 ?_|refine .k1 ?_|refine .k2 ?_|refine .k4 ?_|refine .k6 ?_|refine .k7 ?_|refine .k8 ?_|refine .k9 ?_|(refine .cd ?_ ?_<;>(intro hc;skip))|refine .r1 ?_ ?_|refine .t5 ?_ ?_ ?_|fail)
 try any_goals(exact Zo)
 all_goals(try simp only[BL]at *)
 ·refine Sx.Fin.intro Zs (bf ?_)
  rintro⟨h1,h2,h3,h4⟩
  have:=h4 i (by omega)
  simp only[gU,gr,jD]at this
  omega
 ·refine⟨s.size-(i+1),by omega,_,_,Zr,Zs,i+1,by omega,rfl,nS hp ?_,rfl,by rw[bG (by omega)];rfl⟩
  simp only[gU,gr,jD]
  omega
 ·refine Sx.Fin.intro Zs (bt ?_)
  refine⟨by omega,by omega,by simp only[gU,gr,jD];omega,fun j hj=>hp j (by omega)⟩
end Go.Proofs.YtcccbdelfhgmlaaGreatDoor
namespace Go.Proofs
open Go.Shelf
def Tryz.lays156_ren:Go.Shelf.Ren:=⟨fun|156=>90|165=>126|166=>127|169=>128|240=>161|241=>162|276=>194|277=>195|n=>n,fun|31=>43|9=>9|3=>3|4=>4|0=>0|20=>20|72=>183|76=>187|70=>181|37=>42|75=>186|127=>216|164=>236|5=>5|80=>55|n=>n,fun|n=>n⟩
theorem Tryz.lays156:Go.Proofs.Lays.n156 Tryz.prog Tryz.lays156_ren:=Go.Sx.rN
theorem Tryz.Builder_Extra_156:Builder.Extra Tryz.prog Tryz.lays156_ren:={
 sizeBuilder:=by kernel_rfl
 liesBuilder:=by kernel_rfl
 t5:=Tryz.underlying5
 a5:=Tryz.isAgg5
 z5:=Tryz.sizeOf5
 v5:=Tryz.zeroValue5
 infoByte:=by kernel_rfl
 cellsByte:=by kernel_rfl
 sizeByte:=by kernel_rfl
 neB5:=by decide}
open Go.RowKit in
theorem Tryz.strings_Join_none(a:Option Addr)(c:Nat)(sep:ByteArray)(w:World):
  Calls Tryz.prog 90 #[.slice a 0 c,.string sep] w fun e w'=>e= .returned (.string ⟨#[]⟩)∧w'=w:=Any.strings_Join_none Tryz.lays156 Tryz.Builder_Extra_156 a c sep w
open Go.RowKit in
theorem Tryz.strings_Join(bk o c:Nat)(xs:List ByteArray)(sep:ByteArray)(w:World)(vk:∀ (j:Nat) x,xs[j]? =some x→w.cell? ⟨bk,o+j,none⟩=some (.string x))(IB:bk<w.heap.size)(hN:xs.length≤140737488355328)(mU:xs.length≤c)(hlen:(Lib.join (xs.map (·.data.toList)) sep.data.toList).length≤140737488355328):
  Calls Tryz.prog 90 #[.slice (some ⟨bk,o,none⟩) xs.length c,.string sep] w fun e w'=>e= .returned (.string ⟨(Lib.join (xs.map (·.data.toList)) sep.data.toList).toArray⟩)∧Below w.heap.size w w':=Any.strings_Join Tryz.lays156 Tryz.Builder_Extra_156 bk o c xs sep w vk IB hN mU hlen
def Tryz.lays137_ren:Go.Shelf.Ren:=⟨fun|137=>109|217=>147|266=>140|n=>n,fun|9=>9|5=>5|3=>3|n=>n,fun|n=>n⟩
theorem Tryz.lays137:Go.Proofs.Lays.n137 Tryz.prog Tryz.lays137_ren:=Go.Sx.rN
open Go.RowKit in
theorem Tryz.strings_IndexByte(s:ByteArray)(c:Int)(w:World):
  Calls Tryz.prog 109 #[.string s,.int .u8 c] w fun e w'=>e= .returned (.int .i64 (Lib.indexByte s.data.toList c.toNat.toUInt8))∧w'=w:=Any.strings_IndexByte Tryz.lays137 s c w
def Tryz.lays121_ren:Go.Shelf.Ren:=⟨fun|121=>129|214=>163|n=>n,fun|4=>4|9=>9|n=>n,fun|n=>n⟩
theorem Tryz.lays121:Go.Proofs.Lays.n121 Tryz.prog Tryz.lays121_ren:=Go.Sx.rN
open Go.RowKit in
theorem Tryz.strconv_FormatBool(b:Bool)(w:World):
  Calls Tryz.prog 129 #[.bool b] w fun e w'=>e= .returned (.string ⟨(Lib.formatBool b).toArray⟩)∧w'=w:=Any.strconv_FormatBool Tryz.lays121 b w
def Tryz.laysM171_ren:Go.Shelf.Ren:=⟨fun|171=>61|243=>98|246=>131|283=>164|284=>165|285=>166|286=>167|129=>121|317=>196|318=>197|319=>198|320=>199|337=>216|338=>217|n=>n,fun|3=>3|9=>9|2=>2|4=>4|171=>217|0=>0|53=>178|37=>42|5=>5|173=>219|212=>240|51=>176|20=>20|213=>241|46=>138|232=>275|233=>276|n=>n,fun|17=>5|18=>10|19=>11|n=>n⟩
theorem Tryz.laysM171:Go.Proofs.LaysM.n171 Tryz.prog Tryz.laysM171_ren:=Go.Sx.rN
open Go.RowKit Go.Sort Go.Lib in
theorem Tryz.strconv_Itoa(n:Int)(h0: -9223372036854775808≤n)(h1:n≤9223372036854775807)(w:World)(Jz:Lib.TabIs Tryz.prog w "internal/strconv.uint64pow10" .u64 Lib.pow10Tab):
  Calls Tryz.prog 61 #[.int .i64 n] w fun e w'=>e= .returned (.string ⟨(Lib.itoa n).toArray⟩)∧∃ k os,w'=grow (w.drewN k) os:=Any.strconv_Itoa Tryz.laysM171 n h0 h1 w Jz
def Tryz.laysC172_ren:Go.Shelf.Ren:=⟨fun|172=>139|244=>177|245=>178|247=>203|279=>204|280=>205|281=>206|282=>207|287=>220|316=>221|171=>61|205=>222|321=>228|322=>229|243=>98|246=>131|283=>164|284=>165|285=>166|286=>167|129=>121|317=>196|318=>197|319=>198|320=>199|337=>216|338=>217|n=>n,fun|9=>9|3=>3|75=>186|76=>187|4=>4|5=>5|167=>244|37=>42|0=>0|85=>245|2=>2|168=>247|53=>178|175=>262|46=>138|210=>266|127=>216|145=>281|143=>279|21=>21|171=>217|173=>219|212=>240|51=>176|20=>20|213=>241|232=>275|233=>276|80=>55|n=>n,fun|15=>8|16=>9|17=>5|18=>10|19=>11|n=>n⟩
theorem Tryz.laysC172:Go.Proofs.LaysC.n172 Tryz.prog Tryz.laysC172_ren:=Go.Sx.rN
open Go.RowKit in
theorem Tryz.strconv_Atoi_ok(s:ByteArray)(kV:s.size≤9223372036854775806)(v:Int)(h:Lib.atoiAll s.data.toList= .ok v)(w:World):
  Calls Tryz.prog 139 #[.string s] w fun e w'=>e= .returned (.tuple #[.int .i64 v,.nilIface])∧(w'=w∨∃ t,w'=Lib.bytesWorld w 5 t):=Any.strconv_Atoi_ok Tryz.laysC172 s kV v h w
open Go.RowKit in
theorem Tryz.strconv_Atoi_range(s:ByteArray)(Bu:s.size≤281474976710656)(h:Lib.atoiAll s.data.toList= .range)(ev:Value)(w:World)(hv:w.cell? ⟨9,0,none⟩=some ev)(IY:ev= .nilIface∨∃ te pe,ev= .iface te pe):
  Calls Tryz.prog 139 #[.string s] w fun e w'=>∃ N,e= .returned (.tuple #[.int .i64 (Lib.atoiSat s.data.toList),.iface 247 (.pointer (some ⟨N,0,none⟩))])∧w.heap.size≤N∧w'.heap[N]? =some (.cells #[.string ⟨#[65,116,111,105]⟩,.string s,ev] 266 (0,0))∧Below w.heap.size w w':=Any.strconv_Atoi_range Tryz.laysC172 s Bu h ev w hv IY
def Tryz.lays144_ren:Go.Shelf.Ren:=⟨fun|144=>125|143=>160|219=>193|217=>147|225=>146|224=>181|267=>215|266=>140|314=>226|n=>n,fun|9=>9|4=>4|3=>3|5=>5|46=>138|146=>273|51=>176|n=>n,fun|1=>3|n=>n⟩
theorem Tryz.lays144:Go.Proofs.Lays.n144 Tryz.prog Tryz.lays144_ren:=Go.Sx.rN
open Go.RowKit Go.Lib in
theorem Tryz.strings_Contains_one(s:ByteArray)(c:UInt8)(w:World):
  Calls Tryz.prog 125 #[.string s,.string ⟨#[c]⟩] w fun e w'=>e= .returned (.bool (decide (0≤Lib.indexByte s.data.toList c)))∧w'=w:=Any.strings_Contains_one Tryz.lays144 s c w
open Go.RowKit Go.Lib in
theorem Tryz.strings_Contains(s sub:ByteArray)(m:Int)(w:World)(hs:s.size<4294967281)(hm:w.cell? ⟨3,0,none⟩=some (.int .i64 m)):
  Calls Tryz.prog 125 #[.string s,.string sub] w fun e w'=>e= .returned (.bool (Lib.contains s.data.toList sub.data.toList))∧w'=w:=Any.strings_Contains Tryz.lays144 s sub m w hs hm
def Tryz.lays187_ren:Go.Shelf.Ren:=⟨fun|187=>105|255=>137|n=>n,fun|37=>42|5=>5|3=>3|n=>n,fun|n=>n⟩
theorem Tryz.lays187:Go.Proofs.Lays.n187 Tryz.prog Tryz.lays187_ren:=Go.Sx.rN
theorem Tryz.bytes_IndexByte(b o n c:Nat)(xs:List Int)(cv:Int)(w:World)(hx:xs.length=n)(hc:∀ i,i<n→w.cell? ⟨b,o+i,none⟩=some (.int .u8 (xs.getD i 0))):
  Calls Tryz.prog 105 #[.slice (some ⟨b,o,none⟩) n c,.int .u8 cv] w fun e w'=>e= .returned (.int .i64 (Lib.indexByte (Lib.bytesOf xs) cv.toNat.toUInt8))∧w'=w:=Any.bytes_IndexByte Tryz.lays187 b o n c xs cv w hx hc
end Go.Proofs
set_option linter.unusedVariables false
namespace Go.Proofs.YtcccbdelfhgmlaaGreatDoor
open Go.Sx Go.Proofs Go.RowKit
theorem CA{M:Mem}{s:ae}{v:Value}(h:R M (sv s) v):v= .string s:=h.ay
theorem St{M:Mem}{w0:Base}{w:World}{σ:Store}(hI:Inv Tryz.prog M w0 σ w):∃ m,w.cell? ⟨3,0,none⟩=some (.int .i64 m):=by
 obtain⟨b,off,cs,hv,hM,hR⟩:=(hI.gl 3 [.ai .i64] rfl).qf
 cases hv
 obtain⟨n,hn⟩:=(hR 0 (by simp)).agU
 have h1:=hI.dA _ _ _ (hM 0 (by simp))
 have hn:cs 0= .int .i64 n:=hn
 rw[hn]at h1
 exact⟨n,h1⟩
theorem acv(s:ae)(c:UInt8):Pure Tryz.prog 125 [sv s,sv ⟨#[c]⟩] (.v (.bool (decide (0≤Lib.indexByte s.data.toList c)))):=by
 refine Pure.lj fun M w0 w σ cs hI hR=> ?_
 obtain⟨v1,vs,rfl,h1,h2⟩:=hR.bS
 obtain⟨v2,rfl,h3⟩:=h2.eg
 obtain rfl:=CA h1
 obtain rfl:=CA h3
 exact(Tryz.strings_Contains_one s c w).mono fun e w' ⟨he,hw⟩=>⟨⟨_,he,.v _⟩,by rw[hw];exact Below.refl _ _⟩
theorem acu(s t:ae)(hs:s.size<4294967281):Pure Tryz.prog 125 [sv s,sv t] (.v (.bool (Lib.contains s.data.toList t.data.toList))):=by
 refine Pure.lj fun M w0 w σ cs hI hR=> ?_
 obtain⟨v1,vs,rfl,h1,h2⟩:=hR.bS
 obtain⟨v2,rfl,h3⟩:=h2.eg
 obtain rfl:=CA h1
 obtain rfl:=CA h3
 obtain⟨m,hm⟩:=St hI
 exact(Tryz.strings_Contains s t m w hs hm).mono fun e w' ⟨he,hw⟩=>⟨⟨_,he,.v _⟩,by rw[hw];exact Below.refl _ _⟩
theorem aeh(b:Bool):Pure Tryz.prog 129 [.v (.bool b)] (sv ⟨(Lib.formatBool b).toArray⟩):=by
 refine Pure.lj fun M w0 w σ cs hI hR=> ?_
 obtain⟨v1,rfl,h1⟩:=hR.eg
 obtain rfl:=h1.ay
 exact(Tryz.strconv_FormatBool b w).mono fun e w' ⟨he,hw⟩=>⟨⟨_,he,.v _⟩,by rw[hw];exact Below.refl _ _⟩
theorem abl(w:World)(n:Nat)(os:Array Obj):Below w.heap.size w (Go.Sort.grow (w.drewN n) os):=
 ⟨rfl,rfl,rfl,by simp[Go.Sort.grow,World.drewN],fun k hk=>by show(w.heap++os)[k]? =_;rw[XY hk]⟩
def mq(n:Int):ae:=⟨(Lib.itoa n).toArray⟩
theorem BT(n:Int)(h: -9223372036854775808≤n∧n≤9223372036854775807):Pure Tryz.prog 61 [iv n] (sv (mq n)):=by
 refine Pure.lj fun M w0 w σ cs hI hR=> ?_
 obtain⟨v1,rfl,h1⟩:=hR.eg
 obtain rfl:=h1.ay
 have Jz:Lib.TabIs Tryz.prog w "internal/strconv.uint64pow10" .u64 Lib.pow10Tab:=by
  obtain⟨g1,g2⟩:=hI.gw
  have hg:Tryz.prog.globalNamed "internal/strconv.uint64pow10" =some 5:=by kernel_rfl
  unfold Lib.TabIs World.var? at g1 ⊢
  rw[hg]at g1 ⊢
  simp only[Option.bind_some]at g1 ⊢
  rw[hI.old _ g2]
  exact g1
 refine(Tryz.strconv_Itoa n h.1 h.2 w Jz).mono fun e w' ⟨he,k,os,hw⟩=>⟨⟨_,he,.v _⟩,?_⟩
 rw[hw]
 exact abl w k os
def Et(ws:List ae)(sep:ae):ae:=⟨(Lib.join (ws.map (·.data.toList)) sep.data.toList).toArray⟩
theorem JU(ws:List ae)(sep:ae)(nn:Bool)(hN:ws.length≤140737488355328)(hlen:(Lib.join (ws.map (·.data.toList)) sep.data.toList).length≤140737488355328):
  Pure Tryz.prog 90 [.sl nn 1 (ws.map fL),sv sep] (sv (Et ws sep)):=by
 refine Pure.lj fun M w0 w σ cs hI hR=> ?_
 obtain⟨v1,vs,rfl,h1,h2⟩:=hR.bS
 obtain⟨v2,rfl,h3⟩:=h2.eg
 obtain rfl:=CA h3
 rcases h1.qg with⟨a,_,h,rfl⟩|⟨b,off,cap,cs,rfl,hr,h4,h5⟩
 ·have:ws=[]:=by simpa using h
  subst this
  exact(Tryz.strings_Join_none a 0 sep w).mono fun e w' ⟨he,hw⟩=>⟨⟨_,he,.v _⟩,by rw[hw];exact Below.refl _ _⟩
 ·cases ws with
  |nil=>exact(Tryz.strings_Join_none (some ⟨b,off,none⟩) cap sep w).mono fun e w' ⟨he,hw⟩=>⟨⟨_,he,.v _⟩,by rw[hw];exact Below.refl _ _⟩
  |cons x ws=>
   have vk:∀ (j:Nat) y,(x::ws)[j]? =some y→w.cell? ⟨b,off+j,none⟩=some (.string y):=fun j y hy=>by
    obtain⟨hj,e⟩:=ZP.1 hy
    have eo:j<((x::ws).map fL).length:=by simpa using hj
    have h6:=hI.dA _ _ _ (hr.mem j (by simpa using hj))
    have e2:((x::ws).map fL)[j]=[sv y]:=by rw[Zm,e];rfl
    have h7:=hr.rel j eo 0 (by rw[e2];simp)
    simp only[e2,Yo,Yi,YP]at h7
    rw[h6,h7.ay]
   have IB:b<w.heap.size:=by
    have:=World.block_lt_of_cell? _ _ (vk 0 x rfl)
    simpa using this
   have:=Tryz.strings_Join b off cap (x::ws) sep w vk IB hN (by simpa using h4) hlen
   simp only[Z3]at this ⊢
   exact this.mono fun e w' ⟨he,hw⟩=>⟨⟨_,he,.v _⟩,hw⟩
end Go.Proofs.YtcccbdelfhgmlaaGreatDoor
set_option linter.unusedSimpArgs false
set_option maxRecDepth 100000
namespace Go.Proofs.YtcccbdelfhgmlaaGreatDoor
open Go.Sx Go.Proofs
def yu:List (List UInt8):=[[116,97,98,108,101],[102,101,97,116,117,114,101],[111,102],[107,101,101,112],[98,111,111,108],[116,101,120,116],[107,101,121],[105,110,116],[100,101,99],[105,102],[116,104,101,110],[101,108,115,101],[100,101,102,97,117,108,116],[111,114],[97,110,100],[110,111,116],[116,114,117,101],[102,97,108,115,101],[110,117,108,108],
 [99,111,117,110,116],[115,117,109],[109,101,97,110],[109,105,110],[109,97,120],[102,105,114,115,116],[108,97,115,116],[100,105,115,116,105,110,99,116],[113,117,97,110,116,105,108,101],[100,101,99,97,121],[97,108,108],[115,108,105,100,105,110,103],[116,117,109,98,108,105,110,103],[115,101,115,115,105,111,110],[119,104,101,114,101]]
def KW(s:ae):Prop:=s.data.toList∈yu
instance (s:ae):Decidable (KW s):=inferInstanceAs (Decidable (_∈_))
def Name(s:ae):Prop:=Word s∧¬KW s
instance (s:ae):Decidable (Name s):=inferInstanceAs (Decidable (_∧_))
def rO:List (List UInt8)→List UInt8
 |[]=>[32]
 |w::ws=>32::w++rO ws
theorem RM(s:List UInt8)(hs:(32:UInt8)∉s)(rj:s≠[]):∀ (ws:List (List UInt8)),(∀ w∈ws,(32:UInt8)∉w)→((32::s++[32]) <:+: rO ws↔s∈ws)
 |[],_=>by
  simp only[rO,YE,iff_false]
  intro h
  have:=h.length_le
  simp at this
 |w::ws,hw=>by
  have ih:=RM s hs rj ws (fun x hx=>hw x (by simp[hx]))
  have oB:=hw w (by simp)
  have fJ:∃ t,rO ws=32::t:=by cases ws<;>exact⟨_,rfl⟩
  obtain⟨t,ht⟩:=fJ
  rw[ZV,← ih]
  simp only[rO,ZC]
  rw[List.infix_cons_iff]
  constructor
  ·rintro(h|h)
   ·left
    rw[Yl]at h
    have h:=h.2
    rw[ht]at h
    have key:∀ (s w t:List UInt8),(32:UInt8)∉s→(32:UInt8)∉w→s++[32] <+: w++32::t→s=w:=by
     intro s
     induction s with
     |nil=>
      intro w t _ hw h
      cases w with
      |nil=>rfl
      |cons a w=>
       simp only[Za,ZC,Yl]at h
       exact absurd (by rw[h.1];simp) hw
     |cons a s ih=>
      intro w t hs hw h
      cases w with
      |nil=>
       simp only[Za,ZC,Yl]at h
       exact absurd (by rw[h.1];simp) hs
      |cons b w=>
       simp only[ZC,Yl]at h
       rw[h.1,ih w t (fun x=>hs (by simp[x])) (fun x=>hw (by simp[x])) h.2]
    exact key s w t hs oB h
   ·right
    have key:∀ (w:List UInt8),(32:UInt8)∉w→(32::s++[32]) <:+: w++rO ws→(32::s++[32]) <:+: rO ws:=by
     intro w
     induction w with
     |nil=>intro _ h;exact h
     |cons a w ih2=>
      intro hw h
      simp only[ZC]at h
      rw[List.infix_cons_iff]at h
      rcases h with h|h
      ·rw[Yl]at h
       exact absurd (by rw[h.1];simp) hw
      ·exact ih2 (fun x=>hw (by simp[x])) h
    exact key w oB h
  ·rintro(rfl|h)
   ·left
    rw[Yl]
    refine⟨rfl,?_⟩
    rw[ht]
    exact⟨t,by simp⟩
   ·right
    exact h.trans (List.suffix_append _ _).isInfix
theorem RJ(t:List UInt8):∀ s:List UInt8,0≤Lib.index s t↔t <:+: s
 |[]=>by
  unfold Lib.index
  cases t with
  |nil=>simp
  |cons a t=>simp
 |b::s=>by
  have ih:=RJ t s
  rw[List.infix_cons_iff,← ih]
  have hg:=Lib.index_ge s t
  have e0:Lib.index (b::s) t=if t.isPrefixOf (b::s)then 0 else if Lib.index s t == -1 then -1 else Lib.index s t+1:=rfl
  rw[e0]
  cases h:t.isPrefixOf (b::s)with
  |true=>simp only[Y4];exact⟨fun _=> .inl (List.isPrefixOf_iff_prefix.1 h),fun _=>by decide⟩
  |false=>
   have hn:¬t <+: b::s:=fun hp=>by rw[List.isPrefixOf_iff_prefix.2 hp]at h;cases h
   simp only[ZM,Zf]
   split
   ·rename_i e
    have e:Lib.index s t= -1:=by simpa using e
    simp only[e]
    exact⟨fun h=>absurd h (by decide),fun h=>h.elim (fun h=>absurd h hn) (fun h=>absurd h (by decide))⟩
   ·rename_i e
    have e:Lib.index s t≠-1:=by simpa using e
    exact⟨fun _=> .inr (by omega),fun _=>by omega⟩
theorem JN(c:UInt8):∀ s:List UInt8,0≤Lib.indexByte s c↔c∈s
 |[]=>by simp[Lib.indexByte]
 |b::s=>by
  have ih:=JN c s
  have hg:=Lib.indexByte_ge s c
  rw[ZV,← ih]
  have e0:Lib.indexByte (b::s) c=if b == c then 0 else if Lib.indexByte s c == -1 then -1 else Lib.indexByte s c+1:=rfl
  rw[e0]
  by_cases h:b=c
  ·subst h;simp
  ·have h':(b == c)=false:=by simpa using h
   rw[h']
   simp only[ZM,Zf]
   split
   ·rename_i e
    have e:Lib.indexByte s c= -1:=by simpa using e
    simp only[e]
    exact⟨fun h=>absurd h (by decide),fun hh=>hh.elim (fun e=>absurd e.symm h) (fun h=>absurd h (by decide))⟩
   ·rename_i e
    have e:Lib.indexByte s c≠-1:=by simpa using e
    exact⟨fun _=> .inr (by omega),fun _=>by omega⟩
theorem af0(s:ae)(h0:s.data.toList≠[])(hs:(32:UInt8)∉s.data.toList):Lib.contains (rO yu) (32::s.data.toList++[32])=decide (KW s):=by
 have h:=RM s.data.toList hs h0 yu (by decide)
 rw[YF,decide_eq_true_iff]
 unfold Lib.contains
 rw[decide_eq_true_iff,RJ]
 exact h
theorem afY{s:ae}(h:(32:UInt8)∈s.data.toList):¬KW s:=fun hk=>by
 have:∀ w∈yu,(32:UInt8)∉w:=by decide
 exact this _ hk h
theorem afZ{s:ae}(h:s.data.toList=[]):¬KW s:=fun hk=>by
 have:∀ w∈yu,w≠[]:=by decide
 exact this _ hk h
theorem ui{a b:ae}(h:a.data.toList=b.data.toList):a=b:=by
 cases a;cases b;congr 1;exact YJ h
theorem K3{s:ae}:s=⟨#[]⟩↔s.data.toList=[]:=⟨fun h=>by rw[h],fun h=>ui h⟩
theorem zA(a b:ae):(a++b).data.toList=a.data.toList++b.data.toList:=by simp
theorem CB(a:ae):a.size=a.data.toList.length:=rfl
theorem R6(s:ae)(hs:s.size≤1000):Pure Tryz.prog 87 [sv s] (.v (.bool (decide (KW s)))):=by
 refine k87.p fun σ=> ?_
 repeat'(first|exact .nil|refine .k0 ?_|refine .k1 ?_|refine .k2 ?_|refine .k4 ?_|refine .k7 ?_|refine .r1 ?_ ?_|refine .an rfl (by intro br;first|exact acv _ _|exact acu _ _ (by decide)) ?_ ?_|fail)
 all_goals(try simp only[BL]at *)
 ·intro _
  simp only[ByteArray.size_append]
  have h1:(⟨#[32]⟩:ae).size=1:=rfl
  omega
 ·intro _
  have h1:(⟨#[32]⟩:ae).size=1:=rfl
  omega
 refine Sx.Fin.intro Zs ?_
 congr 2
 have e1:(⟨#[32]⟩++s++⟨#[32]⟩:ae).data.toList=32::s.data.toList++[32]:=by simp[zA]
 rw[e1]
 have e2:Lib.contains (rO yu) (32::s.data.toList++[32])=Lib.contains _ (32::s.data.toList++[32]):=rfl
 by_cases h0:s.data.toList=[]
 ·rw[Zn (afZ h0),Zi (K3.2 h0)];rfl
 ·by_cases h1:(32:UInt8)∈s.data.toList
  ·rw[Zn (afY h1),Zi ((JN _ _).2 h1)];simp
  ·rw[← af0 s h0 h1,Zn (fun h=>h0 (K3.1 h)),Zn (fun h=>h1 ((JN _ _).1 h))]
   simp only[XF,Bool.true_and]
   rfl
theorem Fu{s:ae}:s.size=0↔s=⟨#[]⟩:=by
 rw[K3,CB];exact List.length_eq_zero_iff
theorem agz(s:ae)(PU:s.size≤24):Pure Tryz.prog 54 [sv s] (.v (.bool (decide (Name s)))):=by
 refine RZ.p fun σ=> ?_
 repeat'(first|exact .nil|refine .k0 ?_|refine .k1 ?_|refine .k2 ?_|refine .k4 ?_|refine .k6 ?_|refine .k7 ?_|refine .k9 ?_|(refine .cd ?_ ?_<;>(intro hc;skip))|refine .r1 ?_ ?_|refine .an rfl (by intro br;first|exact R6 _ (by first|omega|fail)|fail) ?_ ?_|fail)
 try any_goals(exact Zo)
 all_goals(try simp only[BL]at *)
 ·refine Sx.Fin.intro Zs (bf ?_)
  rintro⟨⟨h1,_⟩,h2⟩
  rcases hc with(hc|hc)|hc
  ·have:=Fu.2 hc;omega
  ·omega
  ·exact h2 hc
 have aJ:s.size≠0:=fun h=>hc.1.1 (Fu.1 h)
 refine dU (fun n rg σ'=>∃ i:Nat,i≤s.size∧n=s.size-i∧(0<i→gU (bZ s 0).toNat)∧(∀ j,j<i→jD (bZ s j).toNat)∧σ'=σ∧rg=[(0,sv s),(17,iv s.size),(18,iv i)]) s.size rfl ⟨_,_,Zr,Zs,0,ZH _,rfl,fun h=>absurd h (by omega),fun j hj=>absurd hj (by omega),rfl,rfl⟩ ?_
 rintro n _ _ ⟨i,hi,hn,Jj,hp,rfl,rfl⟩
 repeat'(first|exact .nil|refine .k0 ?_|refine .k1 ?_|refine .k2 ?_|refine .k4 ?_|refine .k6 ?_|refine .k7 ?_|refine .k8 ?_|refine .k9 ?_|(refine .cd ?_ ?_<;>(intro hc;skip))|refine .r1 ?_ ?_|refine .t5 ?_ ?_ ?_|fail)
 try any_goals(exact Zo)
 all_goals(try simp only[BL]at *)
 ·refine⟨s.size-(i+1),by omega,_,_,Zr,Zs,i+1,by omega,rfl,fun _=> ?_,nS hp (.inl (by simp only[gU];omega)),rfl,by rw[bG (by omega)];rfl⟩
  by_cases h0:i=0
  ·subst h0;simp only[gU];omega
  ·exact Jj (by omega)
 ·refine⟨s.size-(i+1),by omega,_,_,Zr,Zs,i+1,by omega,rfl,fun _=>Jj (by omega),nS hp ?_,rfl,by rw[bG (by omega)];rfl⟩
  simp only[gU,gr,jD];omega
 ·refine Sx.Fin.intro Zs (bf ?_)
  rintro⟨⟨_,_,h0,h1⟩,_⟩
  have h2:=h1 i (by omega)
  by_cases h3:i=0
  ·subst h3;simp only[gU,gr,jD]at *;omega
  ·simp only[gU,gr,jD]at *;omega
 ·refine Sx.Fin.intro Zs (bt ?_)
  exact⟨⟨by omega,PU,Jj (by omega),fun j hj=>hp j (by omega)⟩,by rename_i h1 _;exact h1.2⟩
theorem agy(s:ae)(PU:¬s.size≤24):Pure Tryz.prog 54 [sv s] (.v (.bool (decide (Name s)))):=by
 refine RZ.p fun σ=> ?_
 repeat'(first|exact .nil|refine .k0 ?_|refine .k1 ?_|refine .k2 ?_|refine .k4 ?_|refine .k6 ?_|refine .k7 ?_|refine .k9 ?_|(refine .cd ?_ ?_<;>(intro hc;skip))|refine .r1 ?_ ?_|refine .an rfl (by intro br;first|exact R6 _ (by(simp only[BL]at *;omega))|fail) ?_ ?_|fail)
 try any_goals(exact Zo)
 all_goals(try simp only[BL]at *)
 ·refine Sx.Fin.intro Zs (bf ?_)
  rintro⟨⟨_,h2,_⟩,_⟩
  omega
 ·exfalso
  omega
theorem EK(s:ae):Pure Tryz.prog 54 [sv s] (.v (.bool (decide (Name s)))):=by
 by_cases h:s.size≤24
 ·exact agz s h
 ·exact agy s h
end Go.Proofs.YtcccbdelfhgmlaaGreatDoor
