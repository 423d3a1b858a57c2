/- The data of the printer's statements: expressions, types, tables, as values and as cells. -/
import Derived.Test.YtajimcniogfpcaaGreatDoorGi
import Derived.Test.YtajimcniogfpcaaGreatDoorCodeA
import Derived.Shelf.Strings.Builder1
import Derived.Shelf.Strings.Builder2
import Derived.Shelf.Strings.OnBuilder
import Derived.Shelf.Small.Utf8
import Derived.Shelf.Small.Strs
import Derived.Shelf.Small.Wraps
import Derived.Shelf.Strings.BuilderF
import Derived.Shelf.Strings.BuilderK
import Derived.Shelf.Strings.Builder2Cap
import Derived.Shelf.Strconv.Itoa0
import Derived.Shelf.Strconv.Itoa1
import Derived.Shelf.LaysM
import Derived.Shelf.Strconv.Itoa2
import Derived.Shelf.Strconv.Itoa3
import Derived.Shelf.Strings.Search1
import Derived.Shelf.Strings.Search2
import Derived.Shelf.Strings.Search3
import Derived.Shelf.Strings.Shaped
import Derived.Shelf.Strings.BuilderCap
import Derived.Shelf.Bytes.IndexByte
import Derived.Test.YtajimcniogfpcaaGreatDoorSxX
import Derived.Test.YtajimcniogfpcaaGreatDoorChecked
import Derived.Test.YtajimcniogfpcaaGreatDoorSxZ
import Derived.Lib.Join
import Derived.Lib.Small
import Derived.Lib.IndexMore
namespace Go.Proofs.YtajimcniogfpcaaGreatDoor
open Go.Sx Go.Proofs
structure ax where
 name:ae
 exp:Int
deriving DecidableEq,Inhabited
def ax.cells(f:ax):List AV:=[sv f.name,iv f.exp]
structure iE where
 kind:Int
 n:Int
 s:ae
deriving DecidableEq,Inhabited
def iE.cells(v:iE):List AV:=[iv v.kind,iv v.n,sv v.s]
structure pS where
 kind:Int
 size:Int
deriving DecidableEq,Inhabited
def pS.cells(w:pS):List AV:=[iv w.kind,iv w.size]
structure Ty where
 kind:Int
 unit:List ax
 of:ae
deriving DecidableEq,Inhabited
def Ty.cells(t:Ty):List AV:=[iv t.kind,.sl false 2 (t.unit.map ax.cells),sv t.of]
inductive Ex where
 |mk (kind:Int) (op name table:ae) (val:iE) (unit:List ax) (param:Int) (win:pS) (args:List Ex)
deriving Inhabited
def Ex.kind:Ex→Int| .mk k _ _ _ _ _ _ _ _=>k
def Ex.op:Ex→ae| .mk _ o _ _ _ _ _ _ _=>o
def Ex.name:Ex→ae| .mk _ _ n _ _ _ _ _ _=>n
def Ex.table:Ex→ae| .mk _ _ _ t _ _ _ _ _=>t
def Ex.val:Ex→iE| .mk _ _ _ _ v _ _ _ _=>v
def Ex.unit:Ex→List ax| .mk _ _ _ _ _ u _ _ _=>u
def Ex.param:Ex→Int| .mk _ _ _ _ _ _ p _ _=>p
def Ex.win:Ex→pS| .mk _ _ _ _ _ _ _ w _=>w
def Ex.args:Ex→List Ex| .mk _ _ _ _ _ _ _ _ ks=>ks
mutual
def Ex.cells:Ex→List AV
 | .mk k o n t v u p w ks=>[iv k,sv o,sv n,sv t,iv v.kind,iv v.n,sv v.s,.sl false 2 (u.map ax.cells),iv p,iv w.kind,iv w.size,.sl false 12 (Ex.DZ ks)]
def Ex.DZ:List Ex→List (List AV)
 |[]=>[]
 |x::l=>x.cells::Ex.DZ l
end
theorem Ex.Oo:∀ l:List Ex,Ex.DZ l=l.map Ex.cells
 |[]=>rfl
 |x::l=>by rw[Ex.DZ,Ex.Oo l];rfl
def Ex.row(x:Ex):List AV:=[iv x.kind,sv x.op,sv x.name,sv x.table,iv x.val.kind,iv x.val.n,sv x.val.s,.sl false 2 (x.unit.map ax.cells),iv x.param,iv x.win.kind,iv x.win.size,.sl false 12 (x.args.map Ex.cells)]
theorem Ex.oP:Ex.cells=Ex.row:=funext fun x=>by
 cases x
 simp only[Ex.cells,Ex.row,Ex.Oo,Ex.kind,Ex.op,Ex.name,Ex.table,Ex.val,Ex.unit,Ex.param,Ex.win,Ex.args]
theorem Ex.fe(x:Ex):x.row=[iv x.kind,sv x.op,sv x.name,sv x.table,iv x.val.kind,iv x.val.n,sv x.val.s,.sl false 2 (x.unit.map ax.cells),iv x.param,iv x.win.kind,iv x.win.size,.sl false 12 (x.args.map Ex.row)]:=by
 rw[← Ex.oP]
 have:=congrFun Ex.oP x
 rw[this]
 rfl
mutual
def Ex.size:Ex→Nat
 | .mk _ _ _ _ _ _ _ _ ks=>1+Ex.cM ks
def Ex.cM:List Ex→Nat
 |[]=>0
 |x::l=>x.size+Ex.cM l
end
mutual
def Ex.depth:Ex→Nat
 | .mk _ _ _ _ _ _ _ _ ks=>Ex.iQ ks+1
def Ex.iQ:List Ex→Nat
 |[]=>0
 |x::l=>max x.depth (Ex.iQ l)
end
theorem Ex.Az(x:Ex):x.size=1+Ex.cM x.args:=by cases x;rfl
theorem Ex.ac1(x:Ex):x.depth=Ex.iQ x.args+1:=by cases x;rfl
theorem Ex.size_pos(x:Ex):0<x.size:=by rw[Ex.Az];omega
theorem Ex.Dd{l:List Ex}{y:Ex}(h:y∈l):y.size≤Ex.cM l:=by
 induction l with
 |nil=>cases h
 |cons x l ih=>
  rw[Ex.cM]
  rcases ZT.1 h with rfl|h
  ·omega
  ·have:=ih h;omega
theorem Ex.De{x y:Ex}(h:y∈x.args):y.size<x.size:=by
 have:=Ex.Dd h
 rw[Ex.Az x];omega
theorem Ex.UT{l:List Ex}{i:Nat}(h:i<l.length):Ex.cM (l.take (i+1))=Ex.cM (l.take i)+(l.getD i default).size:=by
 induction l generalizing i with
 |nil=>simp at h
 |cons x l ih=>
  cases i with
  |zero=>simp[Ex.cM]
  |succ i=>
   have:=ih (i:=i) (by simpa using h)
   simp only[XD,Ex.cM,Xh,this]
   omega
theorem Ex.UU(l:List Ex)(i:Nat):Ex.cM (l.take i)≤Ex.cM l:=by
 induction l generalizing i with
 |nil=>simp
 |cons x l ih=>
  cases i with
  |zero=>simp[Ex.cM]
  |succ i=>simp only[XD,Ex.cM];have:=ih i;omega
theorem Ex.ac0{l:List Ex}{i:Nat}(h:i<l.length):Ex.iQ (l.take (i+1))=max (Ex.iQ (l.take i)) (l.getD i default).depth:=by
 induction l generalizing i with
 |nil=>simp at h
 |cons x l ih=>
  cases i with
  |zero=>simp[Ex.iQ]
  |succ i=>
   have:=ih (i:=i) (by simpa using h)
   simp only[XD,Ex.iQ,Xh,this]
   omega
mutual
theorem Ex.ON:∀ x:Ex,x.depth≤x.size
 | .mk _ _ _ _ _ _ _ _ ks=>by rw[Ex.depth,Ex.size];have:=Ex.OM ks;omega
theorem Ex.OM:∀ l:List Ex,Ex.iQ l≤Ex.cM l
 |[]=>ZM _
 |x::l=>by rw[Ex.iQ,Ex.cM];have:=Ex.ON x;have:=Ex.OM l;omega
end
theorem Ex.ind{C:Ex→Prop}(h:∀ x,(∀ y∈x.args,C y)→C x)(x:Ex):C x:=by
 have:∀ n x,Ex.size x≤n→C x:=by
  intro n
  induction n with
  |zero=>intro x hx;have:=Ex.size_pos x;omega
  |succ n ih=>intro x hx;exact h x fun y hy=>ih y (by have:=Ex.De hy;omega)
 exact this x.size x (ZM _)
structure c6 where
 name:ae
 type:Ty
deriving DecidableEq,Inhabited
def c6.cells(f:c6):List AV:=[sv f.name,iv f.type.kind,.sl false 2 (f.type.unit.map ax.cells),sv f.type.of]
structure aI where
 name:ae
 cN:ae
 fields:List c6
 aQ:Int
deriving DecidableEq,Inhabited
def aI.cells(t:aI):List AV:=[sv t.name,sv t.cN,.sl false 4 (t.fields.map c6.cells),iv t.aQ]
structure aj where
 name:ae
 cN:ae
 type:Ty
 body:Ex
 version:Int
deriving Inhabited
def aj.cells(f:aj):List AV:=[sv f.name,sv f.cN,iv f.type.kind,.sl false 2 (f.type.unit.map ax.cells),sv f.type.of,iv f.body.kind,sv f.body.op,sv f.body.name,sv f.body.table,iv f.body.val.kind,iv f.body.val.n,sv f.body.val.s,.sl false 2 (f.body.unit.map ax.cells),iv f.body.param,iv f.body.win.kind,iv f.body.win.size,.sl false 12 (f.body.args.map Ex.cells),iv f.version]
structure Nw where
 tables:List aI
 features:List aj
deriving Inhabited
def Nw.cells(m:Nw):List AV:=[.sl false 4 (m.tables.map aI.cells),.sl false 18 (m.features.map aj.cells)]
set_option linter.unusedSimpArgs false
set_option linter.unusedVariables false
set_option maxRecDepth 100000
def gz(c:Nat):Prop:=97≤c∧c≤122
instance (c:Nat):Decidable (gz c):=inferInstanceAs (Decidable (_∧_))
def mD(c:Nat):Prop:=48≤c∧c≤57
instance (c:Nat):Decidable (mD c):=inferInstanceAs (Decidable (_∧_))
def ig(c:Nat):Prop:=gz c∨mD c∨c=95
instance (c:Nat):Decidable (ig c):=inferInstanceAs (Decidable (_∨_))
def Word(s:ae):Prop:=1≤s.size∧s.size≤24∧gz ((fO s 0).toNat)∧∀ i,i<s.size→ig ((fO s i).toNat)
instance (s:ae):Decidable (Word s):=inferInstanceAs (Decidable (_∧_∧_∧_))
theorem iP{P:Nat→Prop}{i:Nat}(h:∀ j,j<i→P j)(hi:P i):∀ j,j<i+1→P j:=fun j hj=>by
 rcases YO j i with h'|h'
 ·exact h j h'
 ·obtain rfl:j=i:=by omega
  exact hi
theorem TD(n m:Int)(hm: -1000≤m∧m≤1000):Pure Tryz.prog 165 [iv n,iv m] (.v (.bool (decide (n>m∨n< -m)))):=by
 refine agb.p fun σ=> ?_
 repeat'(first|exact .nil|refine .k0 ?_|refine .k1 ?_|refine .k2 ?_|refine .k4 ?_|refine .k7 ?_|refine .r1 ?_ ?_|fail)
 try any_goals(exact Zo)
 all_goals(try simp only[BL]at *)
 ·rw[eu (by omega)]
  (((refine Sx.Fin.intro Zs (bd ?_);(try simp only[BL]at *);(try simp only[gz,mD,ig,and_assoc]at *)));try omega)
theorem V6(s:ae):Pure Tryz.prog 164 [sv s] (.v (.bool (decide (Word s)))):=by
 refine aga.p fun σ=> ?_
 repeat'(first|exact .nil|refine .k0 ?_|refine .k1 ?_|refine .k2 ?_|refine .k4 ?_|refine .k6 ?_|refine .k7 ?_|refine .k9 ?_|(refine .cd ?_ ?_<;>(intro hc;skip))|refine .r1 ?_ ?_|refine .t5 ?_ ?_ ?_|fail)
 try any_goals(exact Zo)
 all_goals(try simp only[BL]at *)
 ·refine Sx.Fin.intro Zs (bf ?_)
  rintro⟨h1,h2,h3,h4⟩
  simp only[gz,mD,ig]at h3
  omega
 refine bO (fun n rg σ'=>∃ i:Nat,i≤s.size∧n=s.size-i∧(∀ j,j<i→ig ((fO s j).toNat))∧σ'=σ∧rg=[(0,sv s),(24,iv s.size),(25,iv i)]) s.size rfl ⟨_,_,Zr,Zs,0,ZL _,rfl,fun j hj=>absurd hj (by omega),rfl,rfl⟩ ?_
 rintro n _ _ ⟨i,hi,hn,hp,rfl,rfl⟩
 repeat'(first|exact .nil|refine .k0 ?_|refine .k1 ?_|refine .k2 ?_|refine .k4 ?_|refine .k6 ?_|refine .k7 ?_|refine .k8 ?_|refine .k9 ?_|(refine .cd ?_ ?_<;>(intro hc;skip))|refine .r1 ?_ ?_|refine .t5 ?_ ?_ ?_|fail)
 try any_goals(exact Zo)
 all_goals(try simp only[BL]at *)
 ·refine Sx.Fin.intro Zs (bf ?_)
  rintro⟨h1,h2,h3,h4⟩
  have:=h4 i (by omega)
  simp only[gz,mD,ig]at this
  omega
 ·refine⟨s.size-(i+1),by omega,_,_,Zr,Zs,i+1,by omega,rfl,iP hp ?_,rfl,by rw[eu (by omega)];rfl⟩
  simp only[gz,mD,ig]
  omega
 ·refine Sx.Fin.intro Zs (bt ?_)
  refine⟨by omega,by omega,by simp only[gz,mD,ig];omega,fun j hj=>hp j (by omega)⟩
end Go.Proofs.YtajimcniogfpcaaGreatDoor
namespace Go.Proofs
open Go.Shelf
def Tryz.lays156_ren:Go.Shelf.Ren:=⟨fun|156=>149|165=>193|166=>194|169=>195|240=>229|241=>230|276=>263|277=>264|n=>n,fun|31=>51|9=>9|3=>3|4=>4|0=>0|20=>20|72=>273|76=>277|70=>271|37=>77|75=>276|127=>304|164=>328|5=>5|80=>114|n=>n,fun|n=>n⟩
theorem Tryz.lays156:Go.Proofs.Lays.n156 Tryz.prog Tryz.lays156_ren:=Go.Sx.Dc
theorem Tryz.Builder_Extra_156:Builder.Extra Tryz.prog Tryz.lays156_ren:={
 sizeBuilder:=by kernel_rfl
 liesBuilder:=by kernel_rfl
 t5:=Tryz.underlying5
 a5:=Tryz.isAgg5
 z5:=Tryz.sizeOf5
 v5:=Tryz.zeroValue5
 infoByte:=by kernel_rfl
 cellsByte:=by kernel_rfl
 sizeByte:=by kernel_rfl
 neB5:=by decide}
open Go.RowKit in
theorem Tryz.strings_Join_none(a:Option Addr)(c:Nat)(sep:ByteArray)(w:World):
  Calls Tryz.prog 149 #[.slice a 0 c,.string sep] w fun e w'=>e= .returned (.string ⟨#[]⟩)∧w'=w:=Any.strings_Join_none Tryz.lays156 Tryz.Builder_Extra_156 a c sep w
open Go.RowKit in
theorem Tryz.strings_Join(bk o c:Nat)(xs:List ByteArray)(sep:ByteArray)(w:World)(w7:∀ (j:Nat) x,xs[j]? =some x→w.cell? ⟨bk,o+j,none⟩=some (.string x))(JU:bk<w.heap.size)(hN:xs.length≤140737488355328)(rL:xs.length≤c)(hlen:(Lib.join (xs.map (·.data.toList)) sep.data.toList).length≤140737488355328):
  Calls Tryz.prog 149 #[.slice (some ⟨bk,o,none⟩) xs.length c,.string sep] w fun e w'=>e= .returned (.string ⟨(Lib.join (xs.map (·.data.toList)) sep.data.toList).toArray⟩)∧Below w.heap.size w w':=Any.strings_Join Tryz.lays156 Tryz.Builder_Extra_156 bk o c xs sep w w7 JU hN rL hlen
open Go.RowKit in
open Go.RowKit Go.Sort Go.Lib in
def Tryz.lays144_ren:Go.Shelf.Ren:=⟨fun|144=>163|143=>201|219=>242|217=>256|225=>255|224=>274|267=>275|266=>249|314=>300|n=>n,fun|9=>9|4=>4|3=>3|5=>5|46=>174|146=>358|51=>252|n=>n,fun|1=>3|n=>n⟩
theorem Tryz.lays144:Go.Proofs.Lays.n144 Tryz.prog Tryz.lays144_ren:=Go.Sx.Dc
open Go.RowKit Go.Lib in
theorem Tryz.strings_Contains_one(s:ByteArray)(c:UInt8)(w:World):
  Calls Tryz.prog 163 #[.string s,.string ⟨#[c]⟩] w fun e w'=>e= .returned (.bool (decide (0≤Lib.indexByte s.data.toList c)))∧w'=w:=Any.strings_Contains_one Tryz.lays144 s c w
open Go.RowKit Go.Lib in
theorem Tryz.strings_Contains(s sub:ByteArray)(m:Int)(w:World)(hs:s.size<4294967281)(hm:w.cell? ⟨3,0,none⟩=some (.int .i64 m)):
  Calls Tryz.prog 163 #[.string s,.string sub] w fun e w'=>e= .returned (.bool (Lib.contains s.data.toList sub.data.toList))∧w'=w:=Any.strings_Contains Tryz.lays144 s sub m w hs hm
def Tryz.lays187_ren:Go.Shelf.Ren:=⟨fun|187=>212|255=>246|n=>n,fun|37=>77|5=>5|3=>3|n=>n,fun|n=>n⟩
theorem Tryz.lays187:Go.Proofs.Lays.n187 Tryz.prog Tryz.lays187_ren:=Go.Sx.Dc
theorem Tryz.bytes_IndexByte(b o n c:Nat)(xs:List Int)(cv:Int)(w:World)(hx:xs.length=n)(hc:∀ i,i<n→w.cell? ⟨b,o+i,none⟩=some (.int .u8 (xs.getD i 0))):
  Calls Tryz.prog 212 #[.slice (some ⟨b,o,none⟩) n c,.int .u8 cv] w fun e w'=>e= .returned (.int .i64 (Lib.indexByte (Lib.bytesOf xs) cv.toNat.toUInt8))∧w'=w:=Any.bytes_IndexByte Tryz.lays187 b o n c xs cv w hx hc
end Go.Proofs
set_option linter.unusedVariables false
namespace Go.Proofs.YtajimcniogfpcaaGreatDoor
open _root_.Go.Proofs.Tryz
open Go.Sx Go.Proofs Go.RowKit
theorem Dg{M:Mem}{s:ae}{v:Value}(h:R M (sv s) v):v= .string s:=h.ay
theorem ahD{M:Mem}{w0:Base}{w:World}{σ:Store}(hI:Inv prog M w0 σ w):∃ m,w.cell? ⟨3,0,none⟩=some (.int .i64 m):=by
 obtain⟨b,off,cs,hv,hM,hR⟩:=(hI.gl 3 [.ai .i64] rfl).vu
 cases hv
 obtain⟨n,hn⟩:=(hR 0 (by simp)).ah4
 have h1:=hI.cH _ _ _ (hM 0 (by simp))
 have hn:cs 0= .int .i64 n:=hn
 rw[hn]at h1
 exact⟨n,h1⟩
theorem D6(s:ae)(c:UInt8):Pure prog 163 [sv s,sv ⟨#[c]⟩] (.v (.bool (decide (0≤Lib.indexByte s.data.toList c)))):=by
 refine Pure.sW fun M w0 w σ cs hI hR=> ?_
 obtain⟨v1,vs,rfl,h1,h2⟩:=hR.bg
 obtain⟨v2,rfl,h3⟩:=h2.cT
 obtain rfl:=Dg h1
 obtain rfl:=Dg h3
 exact(Tryz.strings_Contains_one s c w).mono fun e w' ⟨he,hw⟩=>⟨⟨_,he,.v _⟩,by rw[hw];exact Below.refl _ _⟩
theorem D5(s t:ae)(hs:s.size<4294967281):Pure prog 163 [sv s,sv t] (.v (.bool (Lib.contains s.data.toList t.data.toList))):=by
 refine Pure.sW fun M w0 w σ cs hI hR=> ?_
 obtain⟨v1,vs,rfl,h1,h2⟩:=hR.bg
 obtain⟨v2,rfl,h3⟩:=h2.cT
 obtain rfl:=Dg h1
 obtain rfl:=Dg h3
 obtain⟨m,hm⟩:=ahD hI
 exact(Tryz.strings_Contains s t m w hs hm).mono fun e w' ⟨he,hw⟩=>⟨⟨_,he,.v _⟩,by rw[hw];exact Below.refl _ _⟩
def kL(n:Int):ae:=⟨(Lib.itoa n).toArray⟩
def xA(ws:List ae)(sep:ae):ae:=⟨(Lib.join (ws.map (·.data.toList)) sep.data.toList).toArray⟩
theorem qB(ws:List ae)(sep:ae)(nn:Bool)(hN:ws.length≤140737488355328)(hlen:(Lib.join (ws.map (·.data.toList)) sep.data.toList).length≤140737488355328):
  Pure prog 149 [.sl nn 1 (ws.map eX),sv sep] (sv (xA ws sep)):=by
 refine Pure.sW fun M w0 w σ cs hI hR=> ?_
 obtain⟨v1,vs,rfl,h1,h2⟩:=hR.bg
 obtain⟨v2,rfl,h3⟩:=h2.cT
 obtain rfl:=Dg h3
 rcases h1.om with⟨a,_,h,rfl⟩|⟨b,off,cap,cs,rfl,hr,h4,h5⟩
 ·have:ws=[]:=by simpa using h
  subst this
  exact(Tryz.strings_Join_none a 0 sep w).mono fun e w' ⟨he,hw⟩=>⟨⟨_,he,.v _⟩,by rw[hw];exact Below.refl _ _⟩
 ·cases ws with
  |nil=>exact(Tryz.strings_Join_none (some ⟨b,off,none⟩) cap sep w).mono fun e w' ⟨he,hw⟩=>⟨⟨_,he,.v _⟩,by rw[hw];exact Below.refl _ _⟩
  |cons x ws=>
   have w7:∀ (j:Nat) y,(x::ws)[j]? =some y→w.cell? ⟨b,off+j,none⟩=some (.string y):=fun j y hy=>by
    obtain⟨hj,e⟩:=ZK.1 hy
    have dW:j<((x::ws).map eX).length:=by simpa using hj
    have h6:=hI.cH _ _ _ (hr.mem j (by simpa using hj))
    have e2:((x::ws).map eX)[j]=[sv y]:=by rw[Zj,e];rfl
    have h7:=hr.rel j dW 0 (by rw[e2];simp)
    simp only[e2,YG,XY,Yr]at h7
    rw[h6,h7.ay]
   have JU:b<w.heap.size:=by
    have:=World.block_lt_of_cell? _ _ (w7 0 x rfl)
    simpa using this
   have:=Tryz.strings_Join b off cap (x::ws) sep w w7 JU hN (by simpa using h4) hlen
   simp only[Z4]at this ⊢
   exact this.mono fun e w' ⟨he,hw⟩=>⟨⟨_,he,.v _⟩,hw⟩
end Go.Proofs.YtajimcniogfpcaaGreatDoor
set_option linter.unusedSimpArgs false
set_option maxRecDepth 100000
namespace Go.Proofs.YtajimcniogfpcaaGreatDoor
open _root_.Go.Proofs.Tryz
open Go.Sx Go.Proofs
def zX:List (List UInt8):=[[116,97,98,108,101],[102,101,97,116,117,114,101],[111,102],[107,101,101,112],[98,111,111,108],[116,101,120,116],[107,101,121],[105,110,116],[100,101,99],[105,102],[116,104,101,110],[101,108,115,101],[100,101,102,97,117,108,116],[111,114],[97,110,100],[110,111,116],[116,114,117,101],[102,97,108,115,101],[110,117,108,108],
 [99,111,117,110,116],[115,117,109],[109,101,97,110],[109,105,110],[109,97,120],[102,105,114,115,116],[108,97,115,116],[100,105,115,116,105,110,99,116],[113,117,97,110,116,105,108,101],[100,101,99,97,121],[97,108,108],[115,108,105,100,105,110,103],[116,117,109,98,108,105,110,103],[115,101,115,115,105,111,110],[119,104,101,114,101]]
def KW(s:ae):Prop:=s.data.toList∈zX
instance (s:ae):Decidable (KW s):=inferInstanceAs (Decidable (_∈_))
def Name(s:ae):Prop:=Word s∧¬KW s
instance (s:ae):Decidable (Name s):=inferInstanceAs (Decidable (_∧_))
def sX:List (List UInt8)→List UInt8
 |[]=>[32]
 |w::ws=>32::w++sX ws
theorem RA(s:List UInt8)(hs:(32:UInt8)∉s)(qu:s≠[]):∀ (ws:List (List UInt8)),(∀ w∈ws,(32:UInt8)∉w)→((32::s++[32]) <:+: sX ws↔s∈ws)
 |[],_=>by
  simp only[sX,Ys,iff_false]
  intro h
  have:=h.length_le
  simp at this
 |w::ws,hw=>by
  have ih:=RA s hs qu ws (fun x hx=>hw x (by simp[hx]))
  have xv:=hw w (by simp)
  have dM:∃ t,sX ws=32::t:=by cases ws<;>exact⟨_,rfl⟩
  obtain⟨t,ht⟩:=dM
  rw[ZT,← ih]
  simp only[sX,ZH]
  rw[List.infix_cons_iff]
  constructor
  ·rintro(h|h)
   ·left
    rw[XM]at h
    have h:=h.2
    rw[ht]at h
    have key:∀ (s w t:List UInt8),(32:UInt8)∉s→(32:UInt8)∉w→s++[32] <+: w++32::t→s=w:=by
     intro s
     induction s with
     |nil=>
      intro w t _ hw h
      cases w with
      |nil=>rfl
      |cons a w=>
       simp only[Zl,ZH,XM]at h
       exact absurd (by rw[h.1];simp) hw
     |cons a s ih=>
      intro w t hs hw h
      cases w with
      |nil=>
       simp only[Zl,ZH,XM]at h
       exact absurd (by rw[h.1];simp) hs
      |cons b w=>
       simp only[ZH,XM]at h
       rw[h.1,ih w t (fun x=>hs (by simp[x])) (fun x=>hw (by simp[x])) h.2]
    exact key s w t hs xv h
   ·right
    have key:∀ (w:List UInt8),(32:UInt8)∉w→(32::s++[32]) <:+: w++sX ws→(32::s++[32]) <:+: sX ws:=by
     intro w
     induction w with
     |nil=>intro _ h;exact h
     |cons a w ih2=>
      intro hw h
      simp only[ZH]at h
      rw[List.infix_cons_iff]at h
      rcases h with h|h
      ·rw[XM]at h
       exact absurd (by rw[h.1];simp) hw
      ·exact ih2 (fun x=>hw (by simp[x])) h
    exact key w xv h
  ·rintro(rfl|h)
   ·left
    rw[XM]
    refine⟨rfl,?_⟩
    rw[ht]
    exact⟨t,by simp⟩
   ·right
    exact h.trans (List.suffix_append _ _).isInfix
theorem Ru(t:List UInt8):∀ s:List UInt8,0≤Lib.index s t↔t <:+: s
 |[]=>by
  unfold Lib.index
  cases t with
  |nil=>simp
  |cons a t=>simp
 |b::s=>by
  have ih:=Ru t s
  rw[List.infix_cons_iff,← ih]
  have hg:=Lib.index_ge s t
  have e0:Lib.index (b::s) t=if t.isPrefixOf (b::s)then 0 else if Lib.index s t == -1 then -1 else Lib.index s t+1:=rfl
  rw[e0]
  cases h:t.isPrefixOf (b::s)with
  |true=>simp only[Y2];exact⟨fun _=> .inl (List.isPrefixOf_iff_prefix.1 h),fun _=>by decide⟩
  |false=>
   have hn:¬t <+: b::s:=fun hp=>by rw[List.isPrefixOf_iff_prefix.2 hp]at h;cases h
   simp only[ZV,Y8]
   split
   ·rename_i e
    have e:Lib.index s t= -1:=by simpa using e
    simp only[e]
    exact⟨fun h=>absurd h (by decide),fun h=>h.elim (fun h=>absurd h hn) (fun h=>absurd h (by decide))⟩
   ·rename_i e
    have e:Lib.index s t≠-1:=by simpa using e
    exact⟨fun _=> .inr (by omega),fun _=>by omega⟩
theorem K5(c:UInt8):∀ s:List UInt8,0≤Lib.indexByte s c↔c∈s
 |[]=>by simp[Lib.indexByte]
 |b::s=>by
  have ih:=K5 c s
  have hg:=Lib.indexByte_ge s c
  rw[ZT,← ih]
  have e0:Lib.indexByte (b::s) c=if b == c then 0 else if Lib.indexByte s c == -1 then -1 else Lib.indexByte s c+1:=rfl
  rw[e0]
  by_cases h:b=c
  ·subst h;simp
  ·have h':(b == c)=false:=by simpa using h
   rw[h']
   simp only[ZV,Y8]
   split
   ·rename_i e
    have e:Lib.indexByte s c= -1:=by simpa using e
    simp only[e]
    exact⟨fun h=>absurd h (by decide),fun hh=>hh.elim (fun e=>absurd e.symm h) (fun h=>absurd h (by decide))⟩
   ·rename_i e
    have e:Lib.indexByte s c≠-1:=by simpa using e
    exact⟨fun _=> .inr (by omega),fun _=>by omega⟩
theorem ahc(s:ae)(h0:s.data.toList≠[])(hs:(32:UInt8)∉s.data.toList):Lib.contains (sX zX) (32::s.data.toList++[32])=decide (KW s):=by
 have h:=RA s.data.toList hs h0 zX (by decide)
 rw[YJ,decide_eq_true_iff]
 unfold Lib.contains
 rw[decide_eq_true_iff,Ru]
 exact h
theorem aha{s:ae}(h:(32:UInt8)∈s.data.toList):¬KW s:=fun hk=>by
 have:∀ w∈zX,(32:UInt8)∉w:=by decide
 exact this _ hk h
theorem ahb{s:ae}(h:s.data.toList=[]):¬KW s:=fun hk=>by
 have:∀ w∈zX,w≠[]:=by decide
 exact this _ hk h
theorem s6{a b:ae}(h:a.data.toList=b.data.toList):a=b:=by
 cases a;cases b;congr 1;exact YB h
theorem MB{s:ae}:s=⟨#[]⟩↔s.data.toList=[]:=⟨fun h=>by rw[h],fun h=>s6 h⟩
theorem qQ(a b:ae):(a++b).data.toList=a.data.toList++b.data.toList:=by simp
theorem Dh(a:ae):a.size=a.data.toList.length:=rfl
theorem Sy(s:ae)(hs:s.size≤1000):Pure prog 116 [sv s] (.v (.bool (decide (KW s)))):=by
 refine R0.p fun σ=> ?_
 repeat'(first|exact .nil|refine .k0 ?_|refine .k1 ?_|refine .k2 ?_|refine .k4 ?_|refine .k7 ?_|refine .r1 ?_ ?_|refine .an rfl (by intro aB;first|exact D6 _ _|exact D5 _ _ (by decide)) ?_ ?_|fail)
 all_goals(try simp only[BL]at *)
 ·intro _
  simp only[ByteArray.size_append]
  have h1:(⟨#[32]⟩:ae).size=1:=rfl
  omega
 ·intro _
  have h1:(⟨#[32]⟩:ae).size=1:=rfl
  omega
 refine Sx.Fin.intro Zs ?_
 congr 2
 have e1:(⟨#[32]⟩++s++⟨#[32]⟩:ae).data.toList=32::s.data.toList++[32]:=by simp[qQ]
 rw[e1]
 have e2:Lib.contains (sX zX) (32::s.data.toList++[32])=Lib.contains _ (32::s.data.toList++[32]):=rfl
 by_cases h0:s.data.toList=[]
 ·rw[Zd (ahb h0),YR (MB.2 h0)];rfl
 ·by_cases h1:(32:UInt8)∈s.data.toList
  ·rw[Zd (aha h1),YR ((K5 _ _).2 h1)];simp
  ·rw[← ahc s h0 h1,Zd (fun h=>h0 (MB.1 h)),Zd (fun h=>h1 ((K5 _ _).1 h))]
   simp only[Xl,Bool.true_and]
   rfl
theorem Mq{s:ae}:s.size=0↔s=⟨#[]⟩:=by
 rw[MB,Dh];exact X3
theorem ahQ(s:ae)(P9:s.size≤24):Pure prog 67 [sv s] (.v (.bool (decide (Name s)))):=by
 refine Lf.p fun σ=> ?_
 repeat'(first|exact .nil|refine .k0 ?_|refine .k1 ?_|refine .k2 ?_|refine .k4 ?_|refine .k6 ?_|refine .k7 ?_|refine .k9 ?_|(refine .cd ?_ ?_<;>(intro hc;skip))|refine .r1 ?_ ?_|refine .an rfl (by intro aB;first|exact Sy _ (by first|omega|fail)|fail) ?_ ?_|fail)
 try any_goals(exact Zo)
 all_goals(try simp only[BL]at *)
 ·refine Sx.Fin.intro Zs (bf ?_)
  rintro⟨⟨h1,_⟩,h2⟩
  rcases hc with(hc|hc)|hc
  ·have:=Mq.2 hc;omega
  ·omega
  ·exact h2 hc
 have aH:s.size≠0:=fun h=>hc.1.1 (Mq.1 h)
 refine bO (fun n rg σ'=>∃ i:Nat,i≤s.size∧n=s.size-i∧(0<i→gz (fO s 0).toNat)∧(∀ j,j<i→ig (fO s j).toNat)∧σ'=σ∧rg=[(0,sv s),(17,iv s.size),(18,iv i)]) s.size rfl ⟨_,_,Zr,Zs,0,ZL _,rfl,fun h=>absurd h (by omega),fun j hj=>absurd hj (by omega),rfl,rfl⟩ ?_
 rintro n _ _ ⟨i,hi,hn,Ky,hp,rfl,rfl⟩
 repeat'(first|exact .nil|refine .k0 ?_|refine .k1 ?_|refine .k2 ?_|refine .k4 ?_|refine .k6 ?_|refine .k7 ?_|refine .k8 ?_|refine .k9 ?_|(refine .cd ?_ ?_<;>(intro hc;skip))|refine .r1 ?_ ?_|refine .t5 ?_ ?_ ?_|fail)
 try any_goals(exact Zo)
 all_goals(try simp only[BL]at *)
 ·refine⟨s.size-(i+1),by omega,_,_,Zr,Zs,i+1,by omega,rfl,fun _=> ?_,iP hp (.inl (by simp only[gz];omega)),rfl,by rw[eu (by omega)];rfl⟩
  by_cases h0:i=0
  ·subst h0;simp only[gz];omega
  ·exact Ky (by omega)
 ·refine⟨s.size-(i+1),by omega,_,_,Zr,Zs,i+1,by omega,rfl,fun _=>Ky (by omega),iP hp ?_,rfl,by rw[eu (by omega)];rfl⟩
  simp only[gz,mD,ig];omega
 ·refine Sx.Fin.intro Zs (bf ?_)
  rintro⟨⟨_,_,h0,h1⟩,_⟩
  have h2:=h1 i (by omega)
  by_cases h3:i=0
  ·subst h3;simp only[gz,mD,ig]at *;omega
  ·simp only[gz,mD,ig]at *;omega
 ·refine Sx.Fin.intro Zs (bt ?_)
  exact⟨⟨by omega,P9,Ky (by omega),fun j hj=>hp j (by omega)⟩,by rename_i h1 _;exact h1.2⟩
theorem ahP(s:ae)(P9:¬s.size≤24):Pure prog 67 [sv s] (.v (.bool (decide (Name s)))):=by
 refine Lf.p fun σ=> ?_
 repeat'(first|exact .nil|refine .k0 ?_|refine .k1 ?_|refine .k2 ?_|refine .k4 ?_|refine .k6 ?_|refine .k7 ?_|refine .k9 ?_|(refine .cd ?_ ?_<;>(intro hc;skip))|refine .r1 ?_ ?_|refine .an rfl (by intro aB;first|exact Sy _ (by(simp only[BL]at *;omega))|fail) ?_ ?_|fail)
 try any_goals(exact Zo)
 all_goals(try simp only[BL]at *)
 ·refine Sx.Fin.intro Zs (bf ?_)
  rintro⟨⟨_,h2,_⟩,_⟩
  omega
 ·exfalso
  omega
theorem qD(s:ae):Pure prog 67 [sv s] (.v (.bool (decide (Name s)))):=by
 by_cases h:s.size≤24
 ·exact ahQ s h
 ·exact ahP s h
end Go.Proofs.YtajimcniogfpcaaGreatDoor
