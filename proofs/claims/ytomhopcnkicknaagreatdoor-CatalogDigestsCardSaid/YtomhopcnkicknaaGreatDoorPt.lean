/- The data of the printer's statements: expressions, types, tables, as values and as cells. -/
import Derived.Test.YtomhopcnkicknaaGreatDoorGi
import Derived.Test.YtomhopcnkicknaaGreatDoorCodeA
import Derived.Test.YtomhopcnkicknaaGreatDoorCodeB
import Derived.Shelf.Strings.Builder1
import Derived.Shelf.Strings.Builder2
import Derived.Shelf.Strings.OnBuilder
import Derived.Shelf.Small.Wraps
import Derived.Shelf.Strings.BuilderF
import Derived.Shelf.Strings.BuilderK
import Derived.Shelf.Strings.Builder2Cap
import Derived.Shelf.Strconv.Itoa0
import Derived.Shelf.Strconv.Itoa1
import Derived.Shelf.LaysM
import Derived.Shelf.Strconv.Itoa2
import Derived.Shelf.Strconv.Itoa3
import Derived.Shelf.Strings.Search1
import Derived.Shelf.Strings.Search2
import Derived.Shelf.Strings.Search3
import Derived.Shelf.Strings.Shaped
import Derived.Shelf.Strings.BuilderCap
import Derived.Test.YtomhopcnkicknaaGreatDoorSxX
import Derived.Test.YtomhopcnkicknaaGreatDoorChecked
import Derived.Test.YtomhopcnkicknaaGreatDoorSxZ
import Derived.Lib.Join
import Derived.Lib.Small
import Derived.Lib.IndexMore
namespace Go.Proofs.YtomhopcnkicknaaGreatDoor
open _root_.Go.Proofs.Tryz
open Go.Sx Go.Proofs
structure ar where
 name:ae
 exp:Int
deriving DecidableEq,Inhabited
def ar.cells(f:ar):List AV:=[sv f.name,iv f.exp]
structure fe where
 kind:Int
 n:Int
 s:ae
deriving DecidableEq,Inhabited
def fe.cells(v:fe):List AV:=[iv v.kind,iv v.n,sv v.s]
structure mh where
 kind:Int
 size:Int
deriving DecidableEq,Inhabited
def mh.cells(w:mh):List AV:=[iv w.kind,iv w.size]
structure Ty where
 kind:Int
 unit:List ar
 of:ae
deriving DecidableEq,Inhabited
def Ty.cells(t:Ty):List AV:=[iv t.kind,.sl false 2 (t.unit.map ar.cells),sv t.of]
inductive Ex where
 |mk (kind:Int) (op name table:ae) (val:fe) (unit:List ar) (param:Int) (win:mh) (args:List Ex)
deriving Inhabited
def Ex.kind:Ex→Int| .mk k _ _ _ _ _ _ _ _=>k
def Ex.op:Ex→ae| .mk _ o _ _ _ _ _ _ _=>o
def Ex.name:Ex→ae| .mk _ _ n _ _ _ _ _ _=>n
def Ex.table:Ex→ae| .mk _ _ _ t _ _ _ _ _=>t
def Ex.val:Ex→fe| .mk _ _ _ _ v _ _ _ _=>v
def Ex.unit:Ex→List ar| .mk _ _ _ _ _ u _ _ _=>u
def Ex.param:Ex→Int| .mk _ _ _ _ _ _ p _ _=>p
def Ex.win:Ex→mh| .mk _ _ _ _ _ _ _ w _=>w
def Ex.args:Ex→List Ex| .mk _ _ _ _ _ _ _ _ ks=>ks
mutual
def Ex.cells:Ex→List AV
 | .mk k o n t v u p w ks=>[iv k,sv o,sv n,sv t,iv v.kind,iv v.n,sv v.s,.sl false 2 (u.map ar.cells),iv p,iv w.kind,iv w.size,.sl false 12 (Ex.Bi ks)]
def Ex.Bi:List Ex→List (List AV)
 |[]=>[]
 |x::l=>x.cells::Ex.Bi l
end
theorem Ex.KR:∀ l:List Ex,Ex.Bi l=l.map Ex.cells
 |[]=>rfl
 |x::l=>by rw[Ex.Bi,Ex.KR l];rfl
def Ex.row(x:Ex):List AV:=[iv x.kind,sv x.op,sv x.name,sv x.table,iv x.val.kind,iv x.val.n,sv x.val.s,.sl false 2 (x.unit.map ar.cells),iv x.param,iv x.win.kind,iv x.win.size,.sl false 12 (x.args.map Ex.cells)]
theorem Ex.lj:Ex.cells=Ex.row:=funext fun x=>by
 cases x
 simp only[Ex.cells,Ex.row,Ex.KR,Ex.kind,Ex.op,Ex.name,Ex.table,Ex.val,Ex.unit,Ex.param,Ex.win,Ex.args]
theorem Ex.bP(x:Ex):x.row=[iv x.kind,sv x.op,sv x.name,sv x.table,iv x.val.kind,iv x.val.n,sv x.val.s,.sl false 2 (x.unit.map ar.cells),iv x.param,iv x.win.kind,iv x.win.size,.sl false 12 (x.args.map Ex.row)]:=by
 rw[← Ex.lj]
 have:=congrFun Ex.lj x
 rw[this]
 rfl
mutual
def Ex.size:Ex→Nat
 | .mk _ _ _ _ _ _ _ _ ks=>1+Ex.cB ks
def Ex.cB:List Ex→Nat
 |[]=>0
 |x::l=>x.size+Ex.cB l
end
mutual
def Ex.depth:Ex→Nat
 | .mk _ _ _ _ _ _ _ _ ks=>Ex.iO ks+1
def Ex.iO:List Ex→Nat
 |[]=>0
 |x::l=>max x.depth (Ex.iO l)
end
theorem Ex.uj(x:Ex):x.size=1+Ex.cB x.args:=by cases x;rfl
theorem Ex.aax(x:Ex):x.depth=Ex.iO x.args+1:=by cases x;rfl
theorem Ex.size_pos(x:Ex):0<x.size:=by rw[Ex.uj];omega
theorem Ex.Ag{l:List Ex}{y:Ex}(h:y∈l):y.size≤Ex.cB l:=by
 induction l with
 |nil=>cases h
 |cons x l ih=>
  rw[Ex.cB]
  rcases ZQ.1 h with rfl|h
  ·omega
  ·have:=ih h;omega
theorem Ex.qq{x y:Ex}(h:y∈x.args):y.size<x.size:=by
 have:=Ex.Ag h
 rw[Ex.uj x];omega
theorem Ex.Qv{l:List Ex}{i:Nat}(h:i<l.length):Ex.cB (l.take (i+1))=Ex.cB (l.take i)+(l.getD i default).size:=by
 induction l generalizing i with
 |nil=>simp at h
 |cons x l ih=>
  cases i with
  |zero=>simp[Ex.cB]
  |succ i=>
   have:=ih (i:=i) (by simpa using h)
   simp only[XM,Ex.cB,XL,this]
   omega
theorem Ex.Qw(l:List Ex)(i:Nat):Ex.cB (l.take i)≤Ex.cB l:=by
 induction l generalizing i with
 |nil=>simp
 |cons x l ih=>
  cases i with
  |zero=>simp[Ex.cB]
  |succ i=>simp only[XM,Ex.cB];have:=ih i;omega
theorem Ex.aav{l:List Ex}{i:Nat}(h:i<l.length):Ex.iO (l.take (i+1))=max (Ex.iO (l.take i)) (l.getD i default).depth:=by
 induction l generalizing i with
 |nil=>simp at h
 |cons x l ih=>
  cases i with
  |zero=>simp[Ex.iO]
  |succ i=>
   have:=ih (i:=i) (by simpa using h)
   simp only[XM,Ex.iO,XL,this]
   omega
mutual
theorem Ex.K5:∀ x:Ex,x.depth≤x.size
 | .mk _ _ _ _ _ _ _ _ ks=>by rw[Ex.depth,Ex.size];have:=Ex.K4 ks;omega
theorem Ex.K4:∀ l:List Ex,Ex.iO l≤Ex.cB l
 |[]=>ZR _
 |x::l=>by rw[Ex.iO,Ex.cB];have:=Ex.K5 x;have:=Ex.K4 l;omega
end
theorem Ex.ind{C:Ex→Prop}(h:∀ x,(∀ y∈x.args,C y)→C x)(x:Ex):C x:=by
 have:∀ n x,Ex.size x≤n→C x:=by
  intro n
  induction n with
  |zero=>intro x hx;have:=Ex.size_pos x;omega
  |succ n ih=>intro x hx;exact h x fun y hy=>ih y (by have:=Ex.qq hy;omega)
 exact this x.size x (ZR _)
structure bZ where
 name:ae
 type:Ty
deriving DecidableEq,Inhabited
def bZ.cells(f:bZ):List AV:=[sv f.name,iv f.type.kind,.sl false 2 (f.type.unit.map ar.cells),sv f.type.of]
structure aP where
 name:ae
 cv:ae
 fields:List bZ
 bY:Int
deriving DecidableEq,Inhabited
def aP.cells(t:aP):List AV:=[sv t.name,sv t.cv,.sl false 4 (t.fields.map bZ.cells),iv t.bY]
structure aj where
 name:ae
 cv:ae
 type:Ty
 body:Ex
 version:Int
deriving Inhabited
def aj.cells(f:aj):List AV:=[sv f.name,sv f.cv,iv f.type.kind,.sl false 2 (f.type.unit.map ar.cells),sv f.type.of,iv f.body.kind,sv f.body.op,sv f.body.name,sv f.body.table,iv f.body.val.kind,iv f.body.val.n,sv f.body.val.s,.sl false 2 (f.body.unit.map ar.cells),iv f.body.param,iv f.body.win.kind,iv f.body.win.size,.sl false 12 (f.body.args.map Ex.cells),iv f.version]
structure qP where
 tables:List aP
 features:List aj
deriving Inhabited
def qP.cells(m:qP):List AV:=[.sl false 4 (m.tables.map aP.cells),.sl false 18 (m.features.map aj.cells)]
set_option linter.unusedSimpArgs false
set_option linter.unusedVariables false
set_option maxRecDepth 100000
def dD(c:Nat):Prop:=97≤c∧c≤122
instance (c:Nat):Decidable (dD c):=inferInstanceAs (Decidable (_∧_))
def fH(c:Nat):Prop:=48≤c∧c≤57
instance (c:Nat):Decidable (fH c):=inferInstanceAs (Decidable (_∧_))
def dS(c:Nat):Prop:=dD c∨fH c∨c=95
instance (c:Nat):Decidable (dS c):=inferInstanceAs (Decidable (_∨_))
def Word(s:ae):Prop:=1≤s.size∧s.size≤24∧dD ((eU s 0).toNat)∧∀ i,i<s.size→dS ((eU s i).toNat)
instance (s:ae):Decidable (Word s):=inferInstanceAs (Decidable (_∧_∧_∧_))
theorem dp{P:Nat→Prop}{i:Nat}(h:∀ j,j<i→P j)(hi:P i):∀ j,j<i+1→P j:=fun j hj=>by
 rcases YF j i with h'|h'
 ·exact h j h'
 ·obtain rfl:j=i:=by omega
  exact hi
theorem Pv(n m:Int)(hm: -1000≤m∧m≤1000):Pure prog 139 [iv n,iv m] (.v (.bool (decide (n>m∨n< -m)))):=by
 refine aem.p fun σ=> ?_
 repeat'(first|exact .nil|refine .k0 ?_|refine .k1 ?_|refine .k2 ?_|refine .k4 ?_|refine .k7 ?_|refine .r1 ?_ ?_|fail)
 try any_goals(exact Zo)
 all_goals(try simp only[BL]at *)
 ·rw[aM (by omega)]
  (((refine Sx.Fin.intro Zs (bd ?_);(try simp only[BL]at *);(try simp only[dD,fH,dS,X2]at *)));try omega)
theorem LH(n:Int):Pure prog 162 [iv n] (.v (.bool (decide (n>8∨n< -8)))):=by
 refine aeC.p fun σ=> ?_
 repeat'(first|exact .nil|refine .k0 ?_|refine .k1 ?_|refine .k2 ?_|refine .k4 ?_|refine .k7 ?_|refine .r1 ?_ ?_|fail)
 try any_goals(exact Zo)
 all_goals(try simp only[BL]at *)
 ·(((refine Sx.Fin.intro Zs (bd ?_);(try simp only[BL]at *);(try simp only[dD,fH,dS,X2]at *)));try omega)
theorem OA(c:UInt8):Pure prog 126 [.v (.int .u8 c.toNat)] (.v (.bool (decide (dD c.toNat)))):=by
 refine aed.p fun σ=> ?_
 repeat'(first|exact .nil|refine .k0 ?_|refine .k1 ?_|refine .k2 ?_|refine .k4 ?_|refine .k7 ?_|refine .r1 ?_ ?_|fail)
 all_goals(try simp only[BL]at *)
 ·(((refine Sx.Fin.intro Zs (bd ?_);(try simp only[BL]at *);(try simp only[dD,fH,dS,X2]at *)));try omega)
theorem aaI(c:UInt8):Pure prog 127 [.v (.int .u8 c.toNat)] (.v (.bool (decide (fH c.toNat)))):=by
 refine aee.p fun σ=> ?_
 repeat'(first|exact .nil|refine .k0 ?_|refine .k1 ?_|refine .k2 ?_|refine .k4 ?_|refine .k7 ?_|refine .r1 ?_ ?_|fail)
 all_goals(try simp only[BL]at *)
 ·(((refine Sx.Fin.intro Zs (bd ?_);(try simp only[BL]at *);(try simp only[dD,fH,dS,X2]at *)));try omega)
theorem R2(s:ae):Pure prog 138 [sv s] (.v (.bool (decide (Word s)))):=by
 refine ael.p fun σ=> ?_
 repeat'(first|exact .nil|refine .k0 ?_|refine .k1 ?_|refine .k2 ?_|refine .k4 ?_|refine .k6 ?_|refine .k7 ?_|refine .k9 ?_|(refine .cd ?_ ?_<;>(intro hc;skip))|refine .r1 ?_ ?_|refine .t5 ?_ ?_ ?_|fail)
 try any_goals(exact Zo)
 all_goals(try simp only[BL]at *)
 ·refine Sx.Fin.intro Zs (bf ?_)
  rintro⟨h1,h2,h3,h4⟩
  simp only[dD,fH,dS]at h3
  omega
 refine aH (fun n rg af=>∃ i:Nat,i≤s.size∧n=s.size-i∧(∀ j,j<i→dS ((eU s j).toNat))∧af=σ∧rg=[(0,sv s),(24,iv s.size),(25,iv i)]) s.size rfl ⟨_,_,Zr,Zs,0,Z1 _,rfl,fun j hj=>absurd hj (by omega),rfl,rfl⟩ ?_
 rintro n _ _ ⟨i,hi,hn,hp,rfl,rfl⟩
 repeat'(first|exact .nil|refine .k0 ?_|refine .k1 ?_|refine .k2 ?_|refine .k4 ?_|refine .k6 ?_|refine .k7 ?_|refine .k8 ?_|refine .k9 ?_|(refine .cd ?_ ?_<;>(intro hc;skip))|refine .r1 ?_ ?_|refine .t5 ?_ ?_ ?_|fail)
 try any_goals(exact Zo)
 all_goals(try simp only[BL]at *)
 ·refine Sx.Fin.intro Zs (bf ?_)
  rintro⟨h1,h2,h3,h4⟩
  have:=h4 i (by omega)
  simp only[dD,fH,dS]at this
  omega
 ·refine⟨s.size-(i+1),by omega,_,_,Zr,Zs,i+1,by omega,rfl,dp hp ?_,rfl,by rw[aM (by omega)];rfl⟩
  simp only[dD,fH,dS]
  omega
 ·refine Sx.Fin.intro Zs (bt ?_)
  refine⟨by omega,by omega,by simp only[dD,fH,dS];omega,fun j hj=>hp j (by omega)⟩
theorem R1(s:ae):Pure prog 161 [sv s] (.v (.bool (decide (Word s)))):=by
 refine aeB.p fun σ=> ?_
 repeat'(first|exact .nil|refine .k0 ?_|refine .k1 ?_|refine .k2 ?_|refine .k4 ?_|refine .k6 ?_|refine .k7 ?_|refine .k9 ?_|(refine .cd ?_ ?_<;>(intro hc;skip))|refine .r1 ?_ ?_|refine .t5 ?_ ?_ ?_|fail)
 try any_goals(exact Zo)
 all_goals(try simp only[BL]at *)
 ·refine Sx.Fin.intro Zs (bf ?_)
  rintro⟨h1,h2,h3,h4⟩
  simp only[dD,fH,dS]at h3
  omega
 refine aH (fun n rg af=>∃ i:Nat,i≤s.size∧n=s.size-i∧(∀ j,j<i→dS ((eU s j).toNat))∧af=σ∧rg=[(0,sv s),(3,iv i)]) s.size rfl ⟨_,_,Zr,Zs,0,Z1 _,rfl,fun j hj=>absurd hj (by omega),rfl,rfl⟩ ?_
 rintro n _ _ ⟨i,hi,hn,hp,rfl,rfl⟩
 repeat'(first|exact .nil|refine .k0 ?_|refine .k1 ?_|refine .k2 ?_|refine .k4 ?_|refine .k6 ?_|refine .k7 ?_|refine .k8 ?_|refine .k9 ?_|(refine .cd ?_ ?_<;>(intro hc;skip))|refine .r1 ?_ ?_|refine .t5 ?_ ?_ ?_|fail)
 try any_goals(exact Zo)
 all_goals(try simp only[BL]at *)
 ·refine Sx.Fin.intro Zs (bf ?_)
  rintro⟨h1,h2,h3,h4⟩
  have:=h4 i (by omega)
  simp only[dD,fH,dS]at this
  omega
 ·refine⟨s.size-(i+1),by omega,_,_,Zr,Zs,i+1,by omega,rfl,dp hp ?_,rfl,by rw[aM (by omega)];rfl⟩
  simp only[dD,fH,dS]
  omega
 ·refine Sx.Fin.intro Zs (bt ?_)
  refine⟨by omega,by omega,by simp only[dD,fH,dS];omega,fun j hj=>hp j (by omega)⟩
end Go.Proofs.YtomhopcnkicknaaGreatDoor
namespace Go.Proofs
open Go.Shelf
def Tryz.lays156_ren:Go.Shelf.Ren:=⟨fun|156=>33|165=>66|166=>11|169=>15|240=>34|241=>101|276=>67|277=>150|n=>n,fun|31=>67|9=>9|3=>3|4=>4|0=>0|20=>20|72=>49|76=>57|70=>46|37=>47|75=>56|127=>83|164=>110|5=>5|80=>63|n=>n,fun|n=>n⟩
theorem Tryz.lays156:Go.Proofs.Lays.n156 Tryz.prog Tryz.lays156_ren:=Go.Sx.Af
theorem Tryz.Builder_Extra_156:Builder.Extra Tryz.prog Tryz.lays156_ren:={
 sizeBuilder:=by kernel_rfl
 liesBuilder:=by kernel_rfl
 t5:=Tryz.underlying5
 a5:=Tryz.isAgg5
 z5:=Tryz.sizeOf5
 v5:=Tryz.zeroValue5
 infoByte:=by kernel_rfl
 cellsByte:=by kernel_rfl
 sizeByte:=by kernel_rfl
 neB5:=by decide}
open Go.RowKit in
theorem Tryz.strings_Join_none(a:Option Addr)(c:Nat)(sep:ByteArray)(w:World):
  Calls Tryz.prog 33 #[.slice a 0 c,.string sep] w fun e w'=>e= .returned (.string ⟨#[]⟩)∧w'=w:=Any.strings_Join_none Tryz.lays156 Tryz.Builder_Extra_156 a c sep w
open Go.RowKit in
theorem Tryz.strings_Join(bk o c:Nat)(xs:List ByteArray)(sep:ByteArray)(w:World)(tj:∀ (j:Nat) x,xs[j]? =some x→w.cell? ⟨bk,o+j,none⟩=some (.string x))(pM:bk<w.heap.size)(hN:xs.length≤140737488355328)(ru:xs.length≤c)(hlen:(Lib.join (xs.map (·.data.toList)) sep.data.toList).length≤140737488355328):
  Calls Tryz.prog 33 #[.slice (some ⟨bk,o,none⟩) xs.length c,.string sep] w fun e w'=>e= .returned (.string ⟨(Lib.join (xs.map (·.data.toList)) sep.data.toList).toArray⟩)∧Below w.heap.size w w':=Any.strings_Join Tryz.lays156 Tryz.Builder_Extra_156 bk o c xs sep w tj pM hN ru hlen
def Tryz.lays121_ren:Go.Shelf.Ren:=⟨fun|121=>230|214=>243|n=>n,fun|4=>4|9=>9|n=>n,fun|n=>n⟩
theorem Tryz.lays121:Go.Proofs.Lays.n121 Tryz.prog Tryz.lays121_ren:=Go.Sx.Af
open Go.RowKit in
theorem Tryz.strconv_FormatBool(b:Bool)(w:World):
  Calls Tryz.prog 230 #[.bool b] w fun e w'=>e= .returned (.string ⟨(Lib.formatBool b).toArray⟩)∧w'=w:=Any.strconv_FormatBool Tryz.lays121 b w
def Tryz.laysM171_ren:Go.Shelf.Ren:=⟨fun|171=>13|243=>38|246=>70|283=>111|284=>112|285=>113|286=>114|129=>157|317=>156|318=>158|319=>159|320=>160|337=>202|338=>203|n=>n,fun|3=>3|9=>9|2=>2|4=>4|171=>148|0=>0|53=>27|37=>47|5=>5|173=>151|212=>180|51=>181|20=>20|213=>182|46=>115|232=>223|233=>224|n=>n,fun|17=>3|18=>5|19=>6|n=>n⟩
theorem Tryz.laysM171:Go.Proofs.LaysM.n171 Tryz.prog Tryz.laysM171_ren:=Go.Sx.Af
open Go.RowKit Go.Sort Go.Lib in
theorem Tryz.strconv_Itoa(n:Int)(h0: -9223372036854775808≤n)(h1:n≤9223372036854775807)(w:World)(GU:Lib.TabIs Tryz.prog w "internal/strconv.uint64pow10" .u64 Lib.pow10Tab):
  Calls Tryz.prog 13 #[.int .i64 n] w fun e w'=>e= .returned (.string ⟨(Lib.itoa n).toArray⟩)∧∃ k os,w'=grow (w.drewN k) os:=Any.strconv_Itoa Tryz.laysM171 n h0 h1 w GU
def Tryz.lays144_ren:Go.Shelf.Ren:=⟨fun|144=>102|143=>151|219=>195|217=>226|225=>227|224=>228|267=>229|266=>241|314=>242|n=>n,fun|9=>9|4=>4|3=>3|5=>5|46=>115|146=>231|51=>181|n=>n,fun|1=>4|n=>n⟩
theorem Tryz.lays144:Go.Proofs.Lays.n144 Tryz.prog Tryz.lays144_ren:=Go.Sx.Af
open Go.RowKit Go.Lib in
theorem Tryz.strings_Contains_one(s:ByteArray)(c:UInt8)(w:World):
  Calls Tryz.prog 102 #[.string s,.string ⟨#[c]⟩] w fun e w'=>e= .returned (.bool (decide (0≤Lib.indexByte s.data.toList c)))∧w'=w:=Any.strings_Contains_one Tryz.lays144 s c w
open Go.RowKit Go.Lib in
theorem Tryz.strings_Contains(s sub:ByteArray)(m:Int)(w:World)(hs:s.size<4294967281)(hm:w.cell? ⟨4,0,none⟩=some (.int .i64 m)):
  Calls Tryz.prog 102 #[.string s,.string sub] w fun e w'=>e= .returned (.bool (Lib.contains s.data.toList sub.data.toList))∧w'=w:=Any.strings_Contains Tryz.lays144 s sub m w hs hm
end Go.Proofs
set_option linter.unusedVariables false
namespace Go.Proofs.YtomhopcnkicknaaGreatDoor
open _root_.Go.Proofs.Tryz
open Go.Sx Go.Proofs Go.RowKit
theorem Aj{M:Mem}{s:ae}{v:Value}(h:R M (sv s) v):v= .string s:=h.aC
theorem ago{M:Mem}{w0:Base}{w:World}{σ:Store}(hI:Inv prog M w0 σ w):∃ m,w.cell? ⟨4,0,none⟩=some (.int .i64 m):=by
 obtain⟨b,off,cs,hv,hM,hR⟩:=(hI.gl 4 [.ai .i64] rfl).ua
 cases hv
 obtain⟨n,hn⟩:=(hR 0 (by simp)).agV
 have h1:=hI.cQ _ _ _ (hM 0 (by simp))
 have hn:cs 0= .int .i64 n:=hn
 rw[hn]at h1
 exact⟨n,h1⟩
theorem Xp(s:ae)(c:UInt8):Pure prog 102 [sv s,sv ⟨#[c]⟩] (.v (.bool (decide (0≤Lib.indexByte s.data.toList c)))):=by
 refine Pure.qp fun M w0 w σ cs hI hR=> ?_
 obtain⟨v1,vs,rfl,h1,h2⟩:=hR.bL
 obtain⟨v2,rfl,h3⟩:=h2.eJ
 obtain rfl:=Aj h1
 obtain rfl:=Aj h3
 exact(Tryz.strings_Contains_one s c w).mono fun e w' ⟨he,hw⟩=>⟨⟨_,he,.v _⟩,by rw[hw];exact Below.refl _ _⟩
theorem Xo(s t:ae)(hs:s.size<4294967281):Pure prog 102 [sv s,sv t] (.v (.bool (Lib.contains s.data.toList t.data.toList))):=by
 refine Pure.qp fun M w0 w σ cs hI hR=> ?_
 obtain⟨v1,vs,rfl,h1,h2⟩:=hR.bL
 obtain⟨v2,rfl,h3⟩:=h2.eJ
 obtain rfl:=Aj h1
 obtain rfl:=Aj h3
 obtain⟨m,hm⟩:=ago hI
 exact(Tryz.strings_Contains s t m w hs hm).mono fun e w' ⟨he,hw⟩=>⟨⟨_,he,.v _⟩,by rw[hw];exact Below.refl _ _⟩
theorem acj(b:Bool):Pure prog 230 [.v (.bool b)] (sv ⟨(Lib.formatBool b).toArray⟩):=by
 refine Pure.qp fun M w0 w σ cs hI hR=> ?_
 obtain⟨v1,rfl,h1⟩:=hR.eJ
 obtain rfl:=h1.aC
 exact(Tryz.strconv_FormatBool b w).mono fun e w' ⟨he,hw⟩=>⟨⟨_,he,.v _⟩,by rw[hw];exact Below.refl _ _⟩
theorem Wy(w:World)(n:Nat)(os:Array Obj):Below w.heap.size w (Go.Sort.grow (w.drewN n) os):=
 ⟨rfl,rfl,rfl,by simp[Go.Sort.grow,World.drewN],fun k hk=>by show(w.heap++os)[k]? =_;rw[Array.getElem?_append_left hk]⟩
def dH(n:Int):ae:=⟨(Lib.itoa n).toArray⟩
theorem tQ(n:Int)(h: -9223372036854775808≤n∧n≤9223372036854775807):Pure prog 13 [iv n] (sv (dH n)):=by
 refine Pure.qp fun M w0 w σ cs hI hR=> ?_
 obtain⟨v1,rfl,h1⟩:=hR.eJ
 obtain rfl:=h1.aC
 have GU:Lib.TabIs prog w "internal/strconv.uint64pow10" .u64 Lib.pow10Tab:=by
  obtain⟨g1,g2⟩:=hI.gw
  have hg:prog.globalNamed "internal/strconv.uint64pow10" =some 3:=by kernel_rfl
  unfold Lib.TabIs World.var? at g1 ⊢
  rw[hg]at g1 ⊢
  simp only[Option.bind_some]at g1 ⊢
  rw[hI.old _ g2]
  exact g1
 refine(Tryz.strconv_Itoa n h.1 h.2 w GU).mono fun e w' ⟨he,k,os,hw⟩=>⟨⟨_,he,.v _⟩,?_⟩
 rw[hw]
 exact Wy w k os
def kR(ws:List ae)(sep:ae):ae:=⟨(Lib.join (ws.map (·.data.toList)) sep.data.toList).toArray⟩
theorem zJ(ws:List ae)(sep:ae)(nn:Bool)(hN:ws.length≤140737488355328)(hlen:(Lib.join (ws.map (·.data.toList)) sep.data.toList).length≤140737488355328):
  Pure prog 33 [.sl nn 1 (ws.map cq),sv sep] (sv (kR ws sep)):=by
 refine Pure.qp fun M w0 w σ cs hI hR=> ?_
 obtain⟨v1,vs,rfl,h1,h2⟩:=hR.bL
 obtain⟨v2,rfl,h3⟩:=h2.eJ
 obtain rfl:=Aj h3
 rcases h1.rM with⟨a,_,h,rfl⟩|⟨b,off,cap,cs,rfl,hr,h4,h5⟩
 ·have:ws=[]:=by simpa using h
  subst this
  exact(Tryz.strings_Join_none a 0 sep w).mono fun e w' ⟨he,hw⟩=>⟨⟨_,he,.v _⟩,by rw[hw];exact Below.refl _ _⟩
 ·cases ws with
  |nil=>exact(Tryz.strings_Join_none (some ⟨b,off,none⟩) cap sep w).mono fun e w' ⟨he,hw⟩=>⟨⟨_,he,.v _⟩,by rw[hw];exact Below.refl _ _⟩
  |cons x ws=>
   have tj:∀ (j:Nat) y,(x::ws)[j]? =some y→w.cell? ⟨b,off+j,none⟩=some (.string y):=fun j y hy=>by
    obtain⟨hj,e⟩:=ZE.1 hy
    have dK:j<((x::ws).map cq).length:=by simpa using hj
    have h6:=hI.cQ _ _ _ (hr.mem j (by simpa using hj))
    have e2:((x::ws).map cq)[j]=[sv y]:=by rw[ZF,e];rfl
    have h7:=hr.rel j dK 0 (by rw[e2];simp)
    simp only[e2,YR,YO,YN]at h7
    rw[h6,h7.aC]
   have pM:b<w.heap.size:=by
    have:=World.block_lt_of_cell? _ _ (tj 0 x rfl)
    simpa using this
   have:=Tryz.strings_Join b off cap (x::ws) sep w tj pM hN (by simpa using h4) hlen
   simp only[Z7]at this ⊢
   exact this.mono fun e w' ⟨he,hw⟩=>⟨⟨_,he,.v _⟩,hw⟩
end Go.Proofs.YtomhopcnkicknaaGreatDoor
set_option linter.unusedSimpArgs false
set_option maxRecDepth 100000
namespace Go.Proofs.YtomhopcnkicknaaGreatDoor
open _root_.Go.Proofs.Tryz
open Go.Sx Go.Proofs
def rH:List (List UInt8):=[[116,97,98,108,101],[102,101,97,116,117,114,101],[111,102],[107,101,101,112],[98,111,111,108],[116,101,120,116],[107,101,121],[105,110,116],[100,101,99],[105,102],[116,104,101,110],[101,108,115,101],[100,101,102,97,117,108,116],[111,114],[97,110,100],[110,111,116],[116,114,117,101],[102,97,108,115,101],[110,117,108,108],
 [99,111,117,110,116],[115,117,109],[109,101,97,110],[109,105,110],[109,97,120],[102,105,114,115,116],[108,97,115,116],[100,105,115,116,105,110,99,116],[113,117,97,110,116,105,108,101],[100,101,99,97,121],[97,108,108],[115,108,105,100,105,110,103],[116,117,109,98,108,105,110,103],[115,101,115,115,105,111,110],[119,104,101,114,101]]
def KW(s:ae):Prop:=s.data.toList∈rH
instance (s:ae):Decidable (KW s):=inferInstanceAs (Decidable (_∈_))
def Name(s:ae):Prop:=Word s∧¬KW s
instance (s:ae):Decidable (Name s):=inferInstanceAs (Decidable (_∧_))
def qs:List (List UInt8)→List UInt8
 |[]=>[32]
 |w::ws=>32::w++qs ws
theorem NY(s:List UInt8)(hs:(32:UInt8)∉s)(pT:s≠[]):∀ (ws:List (List UInt8)),(∀ w∈ws,(32:UInt8)∉w)→((32::s++[32]) <:+: qs ws↔s∈ws)
 |[],_=>by
  simp only[qs,Yt,iff_false]
  intro h
  have:=h.length_le
  simp at this
 |w::ws,hw=>by
  have ih:=NY s hs pT ws (fun x hx=>hw x (by simp[hx]))
  have Cw:=hw w (by simp)
  have iu:∃ t,qs ws=32::t:=by cases ws<;>exact⟨_,rfl⟩
  obtain⟨t,ht⟩:=iu
  rw[ZQ,← ih]
  simp only[qs,Ze]
  rw[List.infix_cons_iff]
  constructor
  ·rintro(h|h)
   ·left
    rw[Ye]at h
    have h:=h.2
    rw[ht]at h
    have key:∀ (s w t:List UInt8),(32:UInt8)∉s→(32:UInt8)∉w→s++[32] <+: w++32::t→s=w:=by
     intro s
     induction s with
     |nil=>
      intro w t _ hw h
      cases w with
      |nil=>rfl
      |cons a w=>
       simp only[Y0,Ze,Ye]at h
       exact absurd (by rw[h.1];simp) hw
     |cons a s ih=>
      intro w t hs hw h
      cases w with
      |nil=>
       simp only[Y0,Ze,Ye]at h
       exact absurd (by rw[h.1];simp) hs
      |cons b w=>
       simp only[Ze,Ye]at h
       rw[h.1,ih w t (fun x=>hs (by simp[x])) (fun x=>hw (by simp[x])) h.2]
    exact key s w t hs Cw h
   ·right
    have key:∀ (w:List UInt8),(32:UInt8)∉w→(32::s++[32]) <:+: w++qs ws→(32::s++[32]) <:+: qs ws:=by
     intro w
     induction w with
     |nil=>intro _ h;exact h
     |cons a w ih2=>
      intro hw h
      simp only[Ze]at h
      rw[List.infix_cons_iff]at h
      rcases h with h|h
      ·rw[Ye]at h
       exact absurd (by rw[h.1];simp) hw
      ·exact ih2 (fun x=>hw (by simp[x])) h
    exact key w Cw h
  ·rintro(rfl|h)
   ·left
    rw[Ye]
    refine⟨rfl,?_⟩
    rw[ht]
    exact⟨t,by simp⟩
   ·right
    exact h.trans (List.suffix_append _ _).isInfix
theorem NU(t:List UInt8):∀ s:List UInt8,0≤Lib.index s t↔t <:+: s
 |[]=>by
  unfold Lib.index
  cases t with
  |nil=>simp
  |cons a t=>simp
 |b::s=>by
  have ih:=NU t s
  rw[List.infix_cons_iff,← ih]
  have hg:=Lib.index_ge s t
  have e0:Lib.index (b::s) t=if t.isPrefixOf (b::s)then 0 else if Lib.index s t == -1 then -1 else Lib.index s t+1:=rfl
  rw[e0]
  cases h:t.isPrefixOf (b::s)with
  |true=>simp only[YV];exact⟨fun _=> .inl (List.isPrefixOf_iff_prefix.1 h),fun _=>by decide⟩
  |false=>
   have hn:¬t <+: b::s:=fun hp=>by rw[List.isPrefixOf_iff_prefix.2 hp]at h;cases h
   simp only[ZG,Za]
   split
   ·rename_i e
    have e:Lib.index s t= -1:=by simpa using e
    simp only[e]
    exact⟨fun h=>absurd h (by decide),fun h=>h.elim (fun h=>absurd h hn) (fun h=>absurd h (by decide))⟩
   ·rename_i e
    have e:Lib.index s t≠-1:=by simpa using e
    exact⟨fun _=> .inr (by omega),fun _=>by omega⟩
theorem G8(c:UInt8):∀ s:List UInt8,0≤Lib.indexByte s c↔c∈s
 |[]=>by simp[Lib.indexByte]
 |b::s=>by
  have ih:=G8 c s
  have hg:=Lib.indexByte_ge s c
  rw[ZQ,← ih]
  have e0:Lib.indexByte (b::s) c=if b == c then 0 else if Lib.indexByte s c == -1 then -1 else Lib.indexByte s c+1:=rfl
  rw[e0]
  by_cases h:b=c
  ·subst h;simp
  ·have h':(b == c)=false:=by simpa using h
   rw[h']
   simp only[ZG,Za]
   split
   ·rename_i e
    have e:Lib.indexByte s c= -1:=by simpa using e
    simp only[e]
    exact⟨fun h=>absurd h (by decide),fun hh=>hh.elim (fun e=>absurd e.symm h) (fun h=>absurd h (by decide))⟩
   ·rename_i e
    have e:Lib.indexByte s c≠-1:=by simpa using e
    exact⟨fun _=> .inr (by omega),fun _=>by omega⟩
theorem afY(s:ae)(h0:s.data.toList≠[])(hs:(32:UInt8)∉s.data.toList):Lib.contains (qs rH) (32::s.data.toList++[32])=decide (KW s):=by
 have h:=NY s.data.toList hs h0 rH (by decide)
 rw[Yy,decide_eq_true_iff]
 unfold Lib.contains
 rw[decide_eq_true_iff,NU]
 exact h
theorem afW{s:ae}(h:(32:UInt8)∈s.data.toList):¬KW s:=fun hk=>by
 have:∀ w∈rH,(32:UInt8)∉w:=by decide
 exact this _ hk h
theorem afX{s:ae}(h:s.data.toList=[]):¬KW s:=fun hk=>by
 have:∀ w∈rH,w≠[]:=by decide
 exact this _ hk h
theorem j9{a b:ae}(h:a.data.toList=b.data.toList):a=b:=by
 cases a;cases b;congr 1;exact YD h
theorem IJ{s:ae}:s=⟨#[]⟩↔s.data.toList=[]:=⟨fun h=>by rw[h],fun h=>j9 h⟩
theorem jz(a b:ae):(a++b).data.toList=a.data.toList++b.data.toList:=by simp
theorem qt(a:ae):a.size=a.data.toList.length:=rfl
theorem Oj(s:ae)(hs:s.size≤1000):Pure prog 68 [sv s] (.v (.bool (decide (KW s)))):=by
 refine k68.p fun σ=> ?_
 repeat'(first|exact .nil|refine .k0 ?_|refine .k1 ?_|refine .k2 ?_|refine .k4 ?_|refine .k7 ?_|refine .r1 ?_ ?_|refine .an rfl (by intro aq;first|exact Xp _ _|exact Xo _ _ (by decide)) ?_ ?_|fail)
 all_goals(try simp only[BL]at *)
 ·intro _
  simp only[ByteArray.size_append]
  have h1:(⟨#[32]⟩:ae).size=1:=rfl
  omega
 ·intro _
  have h1:(⟨#[32]⟩:ae).size=1:=rfl
  omega
 refine Sx.Fin.intro Zs ?_
 congr 2
 have e1:(⟨#[32]⟩++s++⟨#[32]⟩:ae).data.toList=32::s.data.toList++[32]:=by simp[jz]
 rw[e1]
 have e2:Lib.contains (qs rH) (32::s.data.toList++[32])=Lib.contains _ (32::s.data.toList++[32]):=rfl
 by_cases h0:s.data.toList=[]
 ·rw[ZA (afX h0),Zd (IJ.2 h0)];rfl
 ·by_cases h1:(32:UInt8)∈s.data.toList
  ·rw[ZA (afW h1),Zd ((G8 _ _).2 h1)];simp
  ·rw[← afY s h0 h1,ZA (fun h=>h0 (IJ.1 h)),ZA (fun h=>h1 ((G8 _ _).1 h))]
   simp only[Xy,Bool.true_and]
   rfl
set_option maxHeartbeats 4000000 in
theorem afT(s:ae):Pure prog 79 [sv s] (.v (.bool (decide (KW s)))):=by
 refine k79.p fun σ=> ?_
 repeat'(first|exact .nil|refine .k0 ?_|refine .k1 ?_|refine .k2 ?_|refine .k6 ?_|refine .k7 ?_|refine .k9 ?_|(refine .cd ?_ ?_<;>(intro hc;first|exact kf hc (by assumption)|skip))|refine .r1 ?_ ?_|fail)
 all_goals(try simp only[BL]at *)
 all_goals first
  |(refine Sx.Fin.intro Zs (bt ?_)
    subst hc
    decide)
  |(refine Sx.Fin.intro Zs (bf ?_)
    intro hk
    have cH:∀ w∈rH,s≠⟨w.toArray⟩:=by
     simp only[rH,List.forall_mem_cons]
     repeat'(first|assumption|(intro _ h;cases h;done)|refine⟨?_,?_⟩)
    exact cH _ hk (j9 (by simp)))
theorem wM{s:ae}:s.size=0↔s=⟨#[]⟩:=by
 rw[IJ,qt];exact XE
theorem agD(s:ae)(Mk:s.size≤24):Pure prog 35 [sv s] (.v (.bool (decide (Name s)))):=by
 refine N9.p fun σ=> ?_
 repeat'(first|exact .nil|refine .k0 ?_|refine .k1 ?_|refine .k2 ?_|refine .k4 ?_|refine .k6 ?_|refine .k7 ?_|refine .k9 ?_|(refine .cd ?_ ?_<;>(intro hc;skip))|refine .r1 ?_ ?_|refine .an rfl (by intro aq;first|exact Oj _ (by first|omega|fail)|fail) ?_ ?_|fail)
 try any_goals(exact Zo)
 all_goals(try simp only[BL]at *)
 ·refine Sx.Fin.intro Zs (bf ?_)
  rintro⟨⟨h1,_⟩,h2⟩
  rcases hc with(hc|hc)|hc
  ·have:=wM.2 hc;omega
  ·omega
  ·exact h2 hc
 have bB:s.size≠0:=fun h=>hc.1.1 (wM.1 h)
 refine aH (fun n rg af=>∃ i:Nat,i≤s.size∧n=s.size-i∧(0<i→dD (eU s 0).toNat)∧(∀ j,j<i→dS (eU s j).toNat)∧af=σ∧rg=[(0,sv s),(17,iv s.size),(18,iv i)]) s.size rfl ⟨_,_,Zr,Zs,0,Z1 _,rfl,fun h=>absurd h (by omega),fun j hj=>absurd hj (by omega),rfl,rfl⟩ ?_
 rintro n _ _ ⟨i,hi,hn,Gu,hp,rfl,rfl⟩
 repeat'(first|exact .nil|refine .k0 ?_|refine .k1 ?_|refine .k2 ?_|refine .k4 ?_|refine .k6 ?_|refine .k7 ?_|refine .k8 ?_|refine .k9 ?_|(refine .cd ?_ ?_<;>(intro hc;skip))|refine .r1 ?_ ?_|refine .t5 ?_ ?_ ?_|fail)
 try any_goals(exact Zo)
 all_goals(try simp only[BL]at *)
 ·refine⟨s.size-(i+1),by omega,_,_,Zr,Zs,i+1,by omega,rfl,fun _=> ?_,dp hp (.inl (by simp only[dD];omega)),rfl,by rw[aM (by omega)];rfl⟩
  by_cases h0:i=0
  ·subst h0;simp only[dD];omega
  ·exact Gu (by omega)
 ·refine⟨s.size-(i+1),by omega,_,_,Zr,Zs,i+1,by omega,rfl,fun _=>Gu (by omega),dp hp ?_,rfl,by rw[aM (by omega)];rfl⟩
  simp only[dD,fH,dS];omega
 ·refine Sx.Fin.intro Zs (bf ?_)
  rintro⟨⟨_,_,h0,h1⟩,_⟩
  have h2:=h1 i (by omega)
  by_cases h3:i=0
  ·subst h3;simp only[dD,fH,dS]at *;omega
  ·simp only[dD,fH,dS]at *;omega
 ·refine Sx.Fin.intro Zs (bt ?_)
  exact⟨⟨by omega,Mk,Gu (by omega),fun j hj=>hp j (by omega)⟩,by rename_i h1 _;exact h1.2⟩
theorem agA(s:ae)(Mk:¬s.size≤24):Pure prog 35 [sv s] (.v (.bool (decide (Name s)))):=by
 refine N9.p fun σ=> ?_
 repeat'(first|exact .nil|refine .k0 ?_|refine .k1 ?_|refine .k2 ?_|refine .k4 ?_|refine .k6 ?_|refine .k7 ?_|refine .k9 ?_|(refine .cd ?_ ?_<;>(intro hc;skip))|refine .r1 ?_ ?_|refine .an rfl (by intro aq;first|exact Oj _ (by(simp only[BL]at *;omega))|fail) ?_ ?_|fail)
 try any_goals(exact Zo)
 all_goals(try simp only[BL]at *)
 ·refine Sx.Fin.intro Zs (bf ?_)
  rintro⟨⟨_,h2,_⟩,_⟩
  omega
 ·exfalso
  omega
theorem oW(s:ae):Pure prog 35 [sv s] (.v (.bool (decide (Name s)))):=by
 by_cases h:s.size≤24
 ·exact agD s h
 ·exact agA s h
def qC(l:List UInt8)(at_:Nat):Nat:=match l.drop at_ with
 |[]=>0
 |c::t=>if dD c.toNat then 1+(t.takeWhile fun c=>decide (dS c.toNat)).length else 0
theorem QZ{α:Type}[Inhabited α](p:α→Bool):∀ (t:List α) (n:Nat),n≤t.length→(∀ j,j<n→p (t.getD j default)=true)→(n=t.length∨p (t.getD n default)=false)→(t.takeWhile p).length=n
 |[],n,h,_,_=>by simp at h;simp[h]
 |c::t,0,_,_,h=>by
  rcases h with h|h
  ·simp at h
  ·have h:p c=false:=by simpa using h
   rw[List.takeWhile_cons,h];rfl
 |c::t,n+1,h,ha,he=>by
  have h0:p c=true:=by simpa using ha 0 (by omega)
  rw[List.takeWhile_cons,h0]
  simp only[YV,Z8]
  rw[QZ p t n (by simpa using h) (fun j hj=>by simpa using ha (j+1) (by omega)) (by simpa using he)]
theorem RY{l:List UInt8}{k:Nat}(hk:k<l.length)(h:¬dD (l.getD k default).toNat):qC l k=0:=by
 unfold qC
 rw[sV hk]
 simp only[Z6 h]
theorem RZ{l:List UInt8}{k n:Nat}(hk:k<l.length)(h:dD (l.getD k default).toNat)(hn:1≤n)(hle:k+n≤l.length)(ha:∀ j,1≤j→j<n→dS (l.getD (k+j) default).toNat)(he:k+n=l.length∨¬dS (l.getD (k+n) default).toNat):qC l k=n:=by
 unfold qC
 rw[sV hk]
 simp only[Z3 h]
 have e:∀ j,(l.drop (k+1)).getD j default=l.getD (k+(j+1)) default:=fun j=>by simp only[ZY,List.getElem?_drop];congr 2;omega
 rw[QZ _ _ (n-1) (by simp;omega) (fun j hj=>by rw[e];exact Zd (ha (j+1) (by omega) (by omega)))]
 ·omega
 ·rw[e,show n-1+1=n from by omega]
  rcases he with he|he
  ·left;simp;omega
  ·right;exact ZA he
theorem aM5(l:List UInt8)(k:Nat)(nn:Bool)(hk:k<l.length)(hl:l.length≤9000000000000000000):Pure prog 78 [.sl nn 1 (l.map dn),iv k] (iv (qC l k)):=by
 refine k78.p fun σ=> ?_
 repeat'(first|exact .nil|refine .k0 ?_|refine .k1 ?_|refine .k2 ?_|refine .k6 ?_|refine .k7 ?_|refine .k9 ?_|(refine .cd ?_ ?_<;>(intro hc;skip))|refine .r1 ?_ ?_|refine .t1 ?_ ?_ ?_|refine .an rfl (by intro aq;first|exact OA _|fail) ?_ ?_|fail)
 try any_goals(exact Zo)
 all_goals(try simp only[BL]at *)
 ·rw[RY hk hc];exact Zw
 refine aH (fun n rg af=>∃ i:Nat,1≤i∧k+i≤l.length∧n=l.length-i∧(∀ j,1≤j→j<i→dS (l.getD (k+j) default).toNat)∧af=σ∧rg=[(0,.sl nn 1 (l.map dn)),(1,iv k),(5,iv i)]) (l.length-1) rfl ⟨_,_,Zr,Zs,1,ZR _,by omega,rfl,fun j h1 h2=>absurd h2 (by omega),rfl,rfl⟩ ?_
 rintro n _ _ ⟨i,hi,hle,hn,hp,rfl,rfl⟩
 repeat'(first|exact .nil|refine .k0 ?_|refine .k1 ?_|refine .k2 ?_|refine .k3 ?_|refine .k4 ?_|refine .k6 ?_|refine .k7 ?_|refine .k8 ?_|refine .k9 ?_|(refine .cd ?_ ?_<;>(intro hc;skip))|refine .r1 ?_ ?_|(refine .m2 ?_ ?_;intro hlen)|refine .t1 ?_ ?_ ?_|refine .an rfl (by intro aq;first|exact OA _|exact aaI _) ?_ ?_|fail)
 all_goals(try simp only[BL]at *)
 all_goals(have hw:IntKind.i64.wrap ((k:Int)+i)=((k+i:Nat):Int):=by rw[aM (by omega)];omega)
 all_goals(simp only[hw,YJ]at *)
 ·refine⟨l.length-(i+1),by omega,_,_,Zr,Zs,i+1,by omega,by omega,rfl,fun j h1 h2=> ?_,rfl,by rw[aM (by omega)];rfl⟩
  by_cases h:j<i
  ·exact hp j h1 h
  ·obtain rfl:j=i:=by omega
   rcases hc.2 with(h3|h3)|h3
   ·exact .inl h3
   ·exact .inr (.inl h3)
   ·exact .inr (.inr (by omega))
 ·have h0:dD (l.getD k default).toNat:=by assumption
  rw[RZ hk h0 hi hle hp (by
   rcases hc with h1|h1
   ·left;omega
   ·right
    rintro(h3|h3|h3)
    ·exact h1.1.1 h3
    ·exact h1.1.2 h3
    ·exact h1.2 (by omega))]
  exact Zw
 all_goals(intro h1;omega)
theorem R0{s:ae}(h1:1≤s.size):(qC s.data.toList 0=s.size)↔(dD (eU s 0).toNat∧∀ i,i<s.size→dS (eU s i).toNat):=by
 have hl:s.data.toList.length=s.size:=rfl
 have hb:∀ i,s.data.toList.getD i default=eU s i:=fun i=>rfl
 constructor
 ·intro h
  have h0:dD (eU s 0).toNat:=by
   by_cases h2:dD (eU s 0).toNat
   ·exact h2
   ·rw[RY (by omega) (by rw[hb];exact h2)]at h;omega
  refine⟨h0,fun i hi=> ?_⟩
  by_cases my:i=0
  ·subst my;exact .inl h0
  ·unfold qC at h
   rw[sV (by omega:0<s.data.toList.length),hb]at h
   simp only[Zl,Z3 h0]at h
   have hlen:(s.data.toList.drop 1).length=s.size-1:=by rw[X9,hl]
   have Gy:=List.takeWhile_prefix (p:=fun c:UInt8=>decide (dS c.toNat)) (l:=s.data.toList.drop 1)
   have heq:=Gy.eq_of_length (by omega)
   have eO:eU s i∈s.data.toList.drop 1:=by
    rw[← hb,getD_eq (by omega:i<s.data.toList.length)]
    rw[Y3]
    exact⟨i-1,by omega,by rw[List.getElem_drop];congr 1;omega⟩
   rw[← heq]at eO
   have:=Zx.1 (List.all_takeWhile (p:=fun c:UInt8=>decide (dS c.toNat)) (l:=s.data.toList.drop 1)) _ eO
   exact Yq this
 ·rintro⟨h0,h⟩
  exact RZ (by omega) (by rw[hb];exact h0) h1 (by omega) (fun j _ hj=>by rw[hb,Zl];exact h j (by omega)) (.inl (by omega))
theorem aM4(s:ae)(h:¬s=⟨#[]⟩∧s.size≤24):Pure prog 78 [.sl true 1 (s.data.toList.map dn),iv 0] (iv (qC s.data.toList 0)):=by
 have h0:s.size≠0:=fun e=>h.1 (wM.1 e)
 exact aM5 s.data.toList 0 true (by rw[← qt];omega) (by rw[← qt];omega)
theorem nH(s:ae):Pure prog 47 [sv s] (.v (.bool (decide (Name s)))):=by
 refine k47.p fun σ=> ?_
 repeat'(first|exact .nil|refine .k0 ?_|refine .k1 ?_|refine .k2 ?_|refine .k4 ?_|refine .k7 ?_|refine .r1 ?_ ?_|refine .an rfl (by intro aq;first|exact afT _|exact aM4 _ (by simp only[BL]at aq;exact⟨aq.1,by omega⟩)) ?_ ?_|refine .t7 ?_ ?_ ?_|fail)
 try any_goals(exact Zo)
 all_goals(try simp only[BL]at *)
 ·(refine Sx.Fin.intro Zs (bd ?_);(try simp only[BL]at *);(try simp only[dD,fH,dS,X2]at *))
  unfold Name Word
  constructor
  ·rintro⟨h1,h2,h3,h4⟩
   have h0:s.size≠0:=fun e=>h1 (wM.1 e)
   have h6:qC s.data.toList 0=s.size:=by omega
   have h5:=(R0 (by omega)).1 h6
   exact⟨⟨by omega,by omega,h5⟩,h4⟩
  ·rintro⟨⟨h1,h2,h3⟩,h4⟩
   have h5:=(R0 h1).2 h3
   exact⟨fun e=>by have:=wM.2 e;omega,by omega,by omega,h4⟩
end Go.Proofs.YtomhopcnkicknaaGreatDoor
