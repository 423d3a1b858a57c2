/- The data of the printer's statements: expressions, types, tables, as values and as cells. -/
import Derived.Test.YthdeaajdmdmfnaaGreatDoorGi
import Derived.Test.YthdeaajdmdmfnaaGreatDoorCodeA
import Derived.Shelf.Strings.Builder1
import Derived.Shelf.Strings.Builder2
import Derived.Shelf.Strings.OnBuilder
import Derived.Shelf.Small.Utf8
import Derived.Shelf.Small.Bits
import Derived.Shelf.Small.Strs
import Derived.Shelf.Small.Wraps
import Derived.Shelf.Strings.BuilderF
import Derived.Shelf.Strings.BuilderK
import Derived.Shelf.Strings.Builder2Cap
import Derived.Shelf.Strconv.Atoi
import Derived.Shelf.Strconv.Itoa0
import Derived.Shelf.Strconv.Itoa1
import Derived.Shelf.LaysM
import Derived.Shelf.Strconv.Itoa2
import Derived.Shelf.Strconv.Itoa3
import Derived.Shelf.Strings.Search1
import Derived.Shelf.Strings.Search2
import Derived.Shelf.Strings.Search3
import Derived.Shelf.Strings.Shaped
import Derived.Shelf.Strings.BuilderCap
import Derived.Shelf.Bytes.IndexByte
import Derived.Test.YthdeaajdmdmfnaaGreatDoorSxX
import Derived.Test.YthdeaajdmdmfnaaGreatDoorChecked
import Derived.Test.YthdeaajdmdmfnaaGreatDoorSxZ
import Derived.Lib.Join
import Derived.Lib.Small
import Derived.Lib.IndexMore
namespace Go.Proofs.YthdeaajdmdmfnaaGreatDoor
open Go.Sx Go.Proofs
structure aC where
 name:af
 exp:Int
deriving DecidableEq,Inhabited
def aC.cells(f:aC):List AV:=[sv f.name,iv f.exp]
structure gh where
 kind:Int
 n:Int
 s:af
deriving DecidableEq,Inhabited
def gh.cells(v:gh):List AV:=[iv v.kind,iv v.n,sv v.s]
structure qe where
 kind:Int
 size:Int
deriving DecidableEq,Inhabited
def qe.cells(w:qe):List AV:=[iv w.kind,iv w.size]
structure Ty where
 kind:Int
 unit:List aC
 of:af
deriving DecidableEq,Inhabited
def Ty.cells(t:Ty):List AV:=[iv t.kind,.sl false 2 (t.unit.map aC.cells),sv t.of]
inductive Ex where
 |mk (kind:Int) (op name table:af) (val:gh) (unit:List aC) (param:Int) (win:qe) (args:List Ex)
deriving Inhabited
def Ex.kind:Ex→Int| .mk k _ _ _ _ _ _ _ _=>k
def Ex.op:Ex→af| .mk _ o _ _ _ _ _ _ _=>o
def Ex.name:Ex→af| .mk _ _ n _ _ _ _ _ _=>n
def Ex.table:Ex→af| .mk _ _ _ t _ _ _ _ _=>t
def Ex.val:Ex→gh| .mk _ _ _ _ v _ _ _ _=>v
def Ex.unit:Ex→List aC| .mk _ _ _ _ _ u _ _ _=>u
def Ex.param:Ex→Int| .mk _ _ _ _ _ _ p _ _=>p
def Ex.win:Ex→qe| .mk _ _ _ _ _ _ _ w _=>w
def Ex.args:Ex→List Ex| .mk _ _ _ _ _ _ _ _ ks=>ks
mutual
def Ex.cells:Ex→List AV
 | .mk k o n t v u p w ks=>[iv k,sv o,sv n,sv t,iv v.kind,iv v.n,sv v.s,.sl false 2 (u.map aC.cells),iv p,iv w.kind,iv w.size,.sl false 12 (Ex.Cd ks)]
def Ex.Cd:List Ex→List (List AV)
 |[]=>[]
 |x::l=>x.cells::Ex.Cd l
end
theorem Ex.Mt:∀ l:List Ex,Ex.Cd l=l.map Ex.cells
 |[]=>rfl
 |x::l=>by rw[Ex.Cd,Ex.Mt l];rfl
def Ex.row(x:Ex):List AV:=[iv x.kind,sv x.op,sv x.name,sv x.table,iv x.val.kind,iv x.val.n,sv x.val.s,.sl false 2 (x.unit.map aC.cells),iv x.param,iv x.win.kind,iv x.win.size,.sl false 12 (x.args.map Ex.cells)]
theorem Ex.o3:Ex.cells=Ex.row:=funext fun x=>by
 cases x
 simp only[Ex.cells,Ex.row,Ex.Mt,Ex.kind,Ex.op,Ex.name,Ex.table,Ex.val,Ex.unit,Ex.param,Ex.win,Ex.args]
theorem Ex.kE(x:Ex):x.row=[iv x.kind,sv x.op,sv x.name,sv x.table,iv x.val.kind,iv x.val.n,sv x.val.s,.sl false 2 (x.unit.map aC.cells),iv x.param,iv x.win.kind,iv x.win.size,.sl false 12 (x.args.map Ex.row)]:=by
 rw[← Ex.o3]
 have:=congrFun Ex.o3 x
 rw[this]
 rfl
mutual
def Ex.size:Ex→Nat
 | .mk _ _ _ _ _ _ _ _ ks=>1+Ex.cX ks
def Ex.cX:List Ex→Nat
 |[]=>0
 |x::l=>x.size+Ex.cX l
end
mutual
def Ex.depth:Ex→Nat
 | .mk _ _ _ _ _ _ _ _ ks=>Ex.jG ks+1
def Ex.jG:List Ex→Nat
 |[]=>0
 |x::l=>max x.depth (Ex.jG l)
end
theorem Ex.Bj(x:Ex):x.size=1+Ex.cX x.args:=by cases x;rfl
theorem Ex.aar(x:Ex):x.depth=Ex.jG x.args+1:=by cases x;rfl
theorem Ex.size_pos(x:Ex):0<x.size:=by rw[Ex.Bj];omega
theorem Ex.Km{l:List Ex}{y:Ex}(h:y∈l):y.size≤Ex.cX l:=by
 induction l with
 |nil=>cases h
 |cons x l ih=>
  rw[Ex.cX]
  rcases ZK.1 h with rfl|h
  ·omega
  ·have:=ih h;omega
theorem Ex.Ko{x y:Ex}(h:y∈x.args):y.size<x.size:=by
 have:=Ex.Km h
 rw[Ex.Bj x];omega
theorem Ex.Sc{l:List Ex}{i:Nat}(h:i<l.length):Ex.cX (l.take (i+1))=Ex.cX (l.take i)+(l.getD i default).size:=by
 induction l generalizing i with
 |nil=>simp at h
 |cons x l ih=>
  cases i with
  |zero=>simp[Ex.cX]
  |succ i=>
   have:=ih (i:=i) (by simpa using h)
   simp only[List.take_succ_cons,Ex.cX,List.getD_cons_succ,this]
   omega
theorem Ex.Sd(l:List Ex)(i:Nat):Ex.cX (l.take i)≤Ex.cX l:=by
 induction l generalizing i with
 |nil=>simp
 |cons x l ih=>
  cases i with
  |zero=>simp[Ex.cX]
  |succ i=>simp only[List.take_succ_cons,Ex.cX];have:=ih i;omega
theorem Ex.aaq{l:List Ex}{i:Nat}(h:i<l.length):Ex.jG (l.take (i+1))=max (Ex.jG (l.take i)) (l.getD i default).depth:=by
 induction l generalizing i with
 |nil=>simp at h
 |cons x l ih=>
  cases i with
  |zero=>simp[Ex.jG]
  |succ i=>
   have:=ih (i:=i) (by simpa using h)
   simp only[List.take_succ_cons,Ex.jG,List.getD_cons_succ,this]
   omega
mutual
theorem Ex.ME:∀ x:Ex,x.depth≤x.size
 | .mk _ _ _ _ _ _ _ _ ks=>by rw[Ex.depth,Ex.size];have:=Ex.MD ks;omega
theorem Ex.MD:∀ l:List Ex,Ex.jG l≤Ex.cX l
 |[]=>ZX _
 |x::l=>by rw[Ex.jG,Ex.cX];have:=Ex.ME x;have:=Ex.MD l;omega
end
theorem Ex.ind{C:Ex→Prop}(h:∀ x,(∀ y∈x.args,C y)→C x)(x:Ex):C x:=by
 have:∀ n x,Ex.size x≤n→C x:=by
  intro n
  induction n with
  |zero=>intro x hx;have:=Ex.size_pos x;omega
  |succ n ih=>intro x hx;exact h x fun y hy=>ih y (by have:=Ex.Ko hy;omega)
 exact this x.size x (ZX _)
structure dk where
 name:af
 type:Ty
deriving DecidableEq,Inhabited
def dk.cells(f:dk):List AV:=[sv f.name,iv f.type.kind,.sl false 2 (f.type.unit.map aC.cells),sv f.type.of]
structure bj where
 name:af
 dx:af
 fields:List dk
 az:Int
deriving DecidableEq,Inhabited
def bj.cells(t:bj):List AV:=[sv t.name,sv t.dx,.sl false 4 (t.fields.map dk.cells),iv t.az]
structure aq where
 name:af
 dx:af
 type:Ty
 body:Ex
 version:Int
deriving Inhabited
def aq.cells(f:aq):List AV:=[sv f.name,sv f.dx,iv f.type.kind,.sl false 2 (f.type.unit.map aC.cells),sv f.type.of,iv f.body.kind,sv f.body.op,sv f.body.name,sv f.body.table,iv f.body.val.kind,iv f.body.val.n,sv f.body.val.s,.sl false 2 (f.body.unit.map aC.cells),iv f.body.param,iv f.body.win.kind,iv f.body.win.size,.sl false 12 (f.body.args.map Ex.cells),iv f.version]
structure Ls where
 tables:List bj
 features:List aq
deriving Inhabited
def Ls.cells(m:Ls):List AV:=[.sl false 4 (m.tables.map bj.cells),.sl false 18 (m.features.map aq.cells)]
set_option linter.unusedSimpArgs false
set_option linter.unusedVariables false
set_option maxRecDepth 100000
def jf(c:Nat):Prop:=97≤c∧c≤122
instance (c:Nat):Decidable (jf c):=inferInstanceAs (Decidable (_∧_))
def lG(c:Nat):Prop:=48≤c∧c≤57
instance (c:Nat):Decidable (lG c):=inferInstanceAs (Decidable (_∧_))
def j2(c:Nat):Prop:=jf c∨lG c∨c=95
instance (c:Nat):Decidable (j2 c):=inferInstanceAs (Decidable (_∨_))
def Word(s:af):Prop:=1≤s.size∧s.size≤24∧jf ((iL s 0).toNat)∧∀ i,i<s.size→j2 ((iL s i).toNat)
instance (s:af):Decidable (Word s):=inferInstanceAs (Decidable (_∧_∧_∧_))
theorem iM{P:Nat→Prop}{i:Nat}(h:∀ j,j<i→P j)(hi:P i):∀ j,j<i+1→P j:=fun j hj=>by
 rcases YU j i with h'|h'
 ·exact h j h'
 ·obtain rfl:j=i:=by omega
  exact hi
theorem Q6(n m:Int)(hm: -1000≤m∧m≤1000):Pure Tryz.prog 216 [iv n,iv m] (.v (.bool (decide (n>m∨n< -m)))):=by
 refine adK.p fun σ=> ?_
 repeat'(first|exact .nil|refine .k0 ?_|refine .k1 ?_|refine .k2 ?_|refine .k4 ?_|refine .k7 ?_|refine .r1 ?_ ?_|fail)
 try any_goals(exact Zo)
 all_goals(try simp only[BL]at *)
 ·rw[dN (by omega)]
  (((refine Sx.Fin.intro Zs (bd ?_);(try simp only[BL]at *);(try simp only[jf,lG,j2,and_assoc]at *)));try omega)
theorem Tg(s:af):Pure Tryz.prog 215 [sv s] (.v (.bool (decide (Word s)))):=by
 refine adJ.p fun σ=> ?_
 repeat'(first|exact .nil|refine .k0 ?_|refine .k1 ?_|refine .k2 ?_|refine .k4 ?_|refine .k6 ?_|refine .k7 ?_|refine .k9 ?_|(refine .cd ?_ ?_<;>(intro hc;skip))|refine .r1 ?_ ?_|refine .t5 ?_ ?_ ?_|fail)
 try any_goals(exact Zo)
 all_goals(try simp only[BL]at *)
 ·refine Sx.Fin.intro Zs (bf ?_)
  rintro⟨h1,h2,h3,h4⟩
  simp only[jf,lG,j2]at h3
  omega
 refine cr (fun n rg σ'=>∃ i:Nat,i≤s.size∧n=s.size-i∧(∀ j,j<i→j2 ((iL s j).toNat))∧σ'=σ∧rg=[(0,sv s),(24,iv s.size),(25,iv i)]) s.size rfl ⟨_,_,Zr,Zs,0,ZM _,rfl,fun j hj=>absurd hj (by omega),rfl,rfl⟩ ?_
 rintro n _ _ ⟨i,hi,hn,hp,rfl,rfl⟩
 repeat'(first|exact .nil|refine .k0 ?_|refine .k1 ?_|refine .k2 ?_|refine .k4 ?_|refine .k6 ?_|refine .k7 ?_|refine .k8 ?_|refine .k9 ?_|(refine .cd ?_ ?_<;>(intro hc;skip))|refine .r1 ?_ ?_|refine .t5 ?_ ?_ ?_|fail)
 try any_goals(exact Zo)
 all_goals(try simp only[BL]at *)
 ·refine Sx.Fin.intro Zs (bf ?_)
  rintro⟨h1,h2,h3,h4⟩
  have:=h4 i (by omega)
  simp only[jf,lG,j2]at this
  omega
 ·refine⟨s.size-(i+1),by omega,_,_,Zr,Zs,i+1,by omega,rfl,iM hp ?_,rfl,by rw[dN (by omega)];rfl⟩
  simp only[jf,lG,j2]
  omega
 ·refine Sx.Fin.intro Zs (bt ?_)
  refine⟨by omega,by omega,by simp only[jf,lG,j2];omega,fun j hj=>hp j (by omega)⟩
end Go.Proofs.YthdeaajdmdmfnaaGreatDoor
namespace Go.Proofs
open Go.Shelf
def Tryz.lays156_ren:Go.Shelf.Ren:=⟨fun|156=>146|165=>197|166=>198|169=>199|240=>249|241=>250|276=>306|277=>307|n=>n,fun|31=>87|9=>9|3=>3|4=>4|0=>0|20=>20|72=>279|76=>283|70=>277|37=>78|75=>282|127=>318|164=>351|5=>5|80=>114|n=>n,fun|n=>n⟩
theorem Tryz.lays156:Go.Proofs.Lays.n156 Tryz.prog Tryz.lays156_ren:=Go.Sx.Kk
theorem Tryz.Builder_Extra_156:Builder.Extra Tryz.prog Tryz.lays156_ren:={
 sizeBuilder:=by kernel_rfl
 liesBuilder:=by kernel_rfl
 t5:=Tryz.underlying5
 a5:=Tryz.isAgg5
 z5:=Tryz.sizeOf5
 v5:=Tryz.zeroValue5
 infoByte:=by kernel_rfl
 cellsByte:=by kernel_rfl
 sizeByte:=by kernel_rfl
 neB5:=by decide}
open Go.RowKit in
theorem Tryz.strings_Join_none(a:Option Addr)(c:Nat)(sep:ByteArray)(w:World):
  Calls Tryz.prog 146 #[.slice a 0 c,.string sep] w fun e w'=>e= .returned (.string ⟨#[]⟩)∧w'=w:=Any.strings_Join_none Tryz.lays156 Tryz.Builder_Extra_156 a c sep w
open Go.RowKit in
theorem Tryz.strings_Join(bk o c:Nat)(xs:List ByteArray)(sep:ByteArray)(w:World)(uM:∀ (j:Nat) x,xs[j]? =some x→w.cell? ⟨bk,o+j,none⟩=some (.string x))(HT:bk<w.heap.size)(hN:xs.length≤140737488355328)(sB:xs.length≤c)(hlen:(Lib.join (xs.map (·.data.toList)) sep.data.toList).length≤140737488355328):
  Calls Tryz.prog 146 #[.slice (some ⟨bk,o,none⟩) xs.length c,.string sep] w fun e w'=>e= .returned (.string ⟨(Lib.join (xs.map (·.data.toList)) sep.data.toList).toArray⟩)∧Below w.heap.size w w':=Any.strings_Join Tryz.lays156 Tryz.Builder_Extra_156 bk o c xs sep w uM HT hN sB hlen
def Tryz.lays144_ren:Go.Shelf.Ren:=⟨fun|144=>214|143=>267|219=>323|217=>299|225=>298|224=>337|267=>358|266=>292|314=>380|n=>n,fun|9=>9|4=>4|3=>3|5=>5|46=>163|146=>404|51=>337|n=>n,fun|1=>3|n=>n⟩
theorem Tryz.lays144:Go.Proofs.Lays.n144 Tryz.prog Tryz.lays144_ren:=Go.Sx.Kk
open Go.RowKit Go.Lib in
theorem Tryz.strings_Contains_one(s:ByteArray)(c:UInt8)(w:World):
  Calls Tryz.prog 214 #[.string s,.string ⟨#[c]⟩] w fun e w'=>e= .returned (.bool (decide (0≤Lib.indexByte s.data.toList c)))∧w'=w:=Any.strings_Contains_one Tryz.lays144 s c w
open Go.RowKit Go.Lib in
theorem Tryz.strings_Contains(s sub:ByteArray)(m:Int)(w:World)(hs:s.size<4294967281)(hm:w.cell? ⟨3,0,none⟩=some (.int .i64 m)):
  Calls Tryz.prog 214 #[.string s,.string sub] w fun e w'=>e= .returned (.bool (Lib.contains s.data.toList sub.data.toList))∧w'=w:=Any.strings_Contains Tryz.lays144 s sub m w hs hm
def Tryz.lays187_ren:Go.Shelf.Ren:=⟨fun|187=>232|255=>289|n=>n,fun|37=>78|5=>5|3=>3|n=>n,fun|n=>n⟩
theorem Tryz.lays187:Go.Proofs.Lays.n187 Tryz.prog Tryz.lays187_ren:=Go.Sx.Kk
theorem Tryz.bytes_IndexByte(b o n c:Nat)(xs:List Int)(cv:Int)(w:World)(hx:xs.length=n)(hc:∀ i,i<n→w.cell? ⟨b,o+i,none⟩=some (.int .u8 (xs.getD i 0))):
  Calls Tryz.prog 232 #[.slice (some ⟨b,o,none⟩) n c,.int .u8 cv] w fun e w'=>e= .returned (.int .i64 (Lib.indexByte (Lib.bytesOf xs) cv.toNat.toUInt8))∧w'=w:=Any.bytes_IndexByte Tryz.lays187 b o n c xs cv w hx hc
end Go.Proofs
set_option linter.unusedVariables false
namespace Go.Proofs.YthdeaajdmdmfnaaGreatDoor
open _root_.Go.Proofs.Tryz
open Go.Sx Go.Proofs Go.RowKit
theorem Bn{M:Mem}{s:af}{v:Value}(h:R M (sv s) v):v= .string s:=h.ay
theorem aeT{M:Mem}{w0:Base}{w:World}{σ:Store}(hI:Inv prog M w0 σ w):∃ m,w.cell? ⟨3,0,none⟩=some (.int .i64 m):=by
 obtain⟨b,off,cs,hv,hM,hR⟩:=(hI.gl 3 [.ai .i64] rfl).tq
 cases hv
 obtain⟨n,hn⟩:=(hR 0 (by simp)).afl
 have h1:=hI.bL _ _ _ (hM 0 (by simp))
 have hn:cs 0= .int .i64 n:=hn
 rw[hn]at h1
 exact⟨n,h1⟩
theorem Cm(s:af)(c:UInt8):Pure prog 214 [sv s,sv ⟨#[c]⟩] (.v (.bool (decide (0≤Lib.indexByte s.data.toList c)))):=by
 refine Pure.vV fun M w0 w σ cs hI hR=> ?_
 obtain⟨v1,vs,rfl,h1,h2⟩:=hR.aX
 obtain⟨v2,rfl,h3⟩:=h2.cJ
 obtain rfl:=Bn h1
 obtain rfl:=Bn h3
 exact(Tryz.strings_Contains_one s c w).mono fun e w' ⟨he,hw⟩=>⟨⟨_,he,.v _⟩,by rw[hw];exact Below.refl _ _⟩
theorem Ck(s t:af)(hs:s.size<4294967281):Pure prog 214 [sv s,sv t] (.v (.bool (Lib.contains s.data.toList t.data.toList))):=by
 refine Pure.vV fun M w0 w σ cs hI hR=> ?_
 obtain⟨v1,vs,rfl,h1,h2⟩:=hR.aX
 obtain⟨v2,rfl,h3⟩:=h2.cJ
 obtain rfl:=Bn h1
 obtain rfl:=Bn h3
 obtain⟨m,hm⟩:=aeT hI
 exact(Tryz.strings_Contains s t m w hs hm).mono fun e w' ⟨he,hw⟩=>⟨⟨_,he,.v _⟩,by rw[hw];exact Below.refl _ _⟩
def adg(n:Int):af:=⟨(Lib.itoa n).toArray⟩
def PB(ws:List af)(sep:af):af:=⟨(Lib.join (ws.map (·.data.toList)) sep.data.toList).toArray⟩
theorem AL(ws:List af)(sep:af)(nn:Bool)(hN:ws.length≤140737488355328)(hlen:(Lib.join (ws.map (·.data.toList)) sep.data.toList).length≤140737488355328):
  Pure prog 146 [.sl nn 1 (ws.map iZ),sv sep] (sv (PB ws sep)):=by
 refine Pure.vV fun M w0 w σ cs hI hR=> ?_
 obtain⟨v1,vs,rfl,h1,h2⟩:=hR.aX
 obtain⟨v2,rfl,h3⟩:=h2.cJ
 obtain rfl:=Bn h3
 rcases h1.nj with⟨a,_,h,rfl⟩|⟨b,off,cap,cs,rfl,hr,h4,h5⟩
 ·have:ws=[]:=by simpa using h
  subst this
  exact(Tryz.strings_Join_none a 0 sep w).mono fun e w' ⟨he,hw⟩=>⟨⟨_,he,.v _⟩,by rw[hw];exact Below.refl _ _⟩
 ·cases ws with
  |nil=>exact(Tryz.strings_Join_none (some ⟨b,off,none⟩) cap sep w).mono fun e w' ⟨he,hw⟩=>⟨⟨_,he,.v _⟩,by rw[hw];exact Below.refl _ _⟩
  |cons x ws=>
   have uM:∀ (j:Nat) y,(x::ws)[j]? =some y→w.cell? ⟨b,off+j,none⟩=some (.string y):=fun j y hy=>by
    obtain⟨hj,e⟩:=ZE.1 hy
    have dK:j<((x::ws).map iZ).length:=by simpa using hj
    have h6:=hI.bL _ _ _ (hr.mem j (by simpa using hj))
    have e2:((x::ws).map iZ)[j]=[sv y]:=by rw[Zu,e];rfl
    have h7:=hr.rel j dK 0 (by rw[e2];simp)
    simp only[e2,Yx,Yb,Ym]at h7
    rw[h6,h7.ay]
   have HT:b<w.heap.size:=by
    have:=World.block_lt_of_cell? _ _ (uM 0 x rfl)
    simpa using this
   have:=Tryz.strings_Join b off cap (x::ws) sep w uM HT hN (by simpa using h4) hlen
   simp only[ZW]at this ⊢
   exact this.mono fun e w' ⟨he,hw⟩=>⟨⟨_,he,.v _⟩,hw⟩
end Go.Proofs.YthdeaajdmdmfnaaGreatDoor
set_option linter.unusedSimpArgs false
set_option maxRecDepth 100000
namespace Go.Proofs.YthdeaajdmdmfnaaGreatDoor
open _root_.Go.Proofs.Tryz
open Go.Sx Go.Proofs
def xX:List (List UInt8):=[[116,97,98,108,101],[102,101,97,116,117,114,101],[111,102],[107,101,101,112],[98,111,111,108],[116,101,120,116],[107,101,121],[105,110,116],[100,101,99],[105,102],[116,104,101,110],[101,108,115,101],[100,101,102,97,117,108,116],[111,114],[97,110,100],[110,111,116],[116,114,117,101],[102,97,108,115,101],[110,117,108,108],
 [99,111,117,110,116],[115,117,109],[109,101,97,110],[109,105,110],[109,97,120],[102,105,114,115,116],[108,97,115,116],[100,105,115,116,105,110,99,116],[113,117,97,110,116,105,108,101],[100,101,99,97,121],[97,108,108],[115,108,105,100,105,110,103],[116,117,109,98,108,105,110,103],[115,101,115,115,105,111,110],[119,104,101,114,101]]
def KW(s:af):Prop:=s.data.toList∈xX
instance (s:af):Decidable (KW s):=inferInstanceAs (Decidable (_∈_))
def Name(s:af):Prop:=Word s∧¬KW s
instance (s:af):Decidable (Name s):=inferInstanceAs (Decidable (_∧_))
def q8:List (List UInt8)→List UInt8
 |[]=>[32]
 |w::ws=>32::w++q8 ws
theorem Pr(s:List UInt8)(hs:(32:UInt8)∉s)(js:s≠[]):∀ (ws:List (List UInt8)),(∀ w∈ws,(32:UInt8)∉w)→((32::s++[32]) <:+: q8 ws↔s∈ws)
 |[],_=>by
  simp only[q8,XY,iff_false]
  intro h
  have:=h.length_le
  simp at this
 |w::ws,hw=>by
  have ih:=Pr s hs js ws (fun x hx=>hw x (by simp[hx]))
  have AA:=hw w (by simp)
  have dE:∃ t,q8 ws=32::t:=by cases ws<;>exact⟨_,rfl⟩
  obtain⟨t,ht⟩:=dE
  rw[ZK,← ih]
  simp only[q8,ZG]
  rw[List.infix_cons_iff]
  constructor
  ·rintro(h|h)
   ·left
    rw[X7]at h
    have h:=h.2
    rw[ht]at h
    have key:∀ (s w t:List UInt8),(32:UInt8)∉s→(32:UInt8)∉w→s++[32] <+: w++32::t→s=w:=by
     intro s
     induction s with
     |nil=>
      intro w t _ hw h
      cases w with
      |nil=>rfl
      |cons a w=>
       simp only[Zl,ZG,X7]at h
       exact absurd (by rw[h.1];simp) hw
     |cons a s ih=>
      intro w t hs hw h
      cases w with
      |nil=>
       simp only[Zl,ZG,X7]at h
       exact absurd (by rw[h.1];simp) hs
      |cons b w=>
       simp only[ZG,X7]at h
       rw[h.1,ih w t (fun x=>hs (by simp[x])) (fun x=>hw (by simp[x])) h.2]
    exact key s w t hs AA h
   ·right
    have key:∀ (w:List UInt8),(32:UInt8)∉w→(32::s++[32]) <:+: w++q8 ws→(32::s++[32]) <:+: q8 ws:=by
     intro w
     induction w with
     |nil=>intro _ h;exact h
     |cons a w ih2=>
      intro hw h
      simp only[ZG]at h
      rw[List.infix_cons_iff]at h
      rcases h with h|h
      ·rw[X7]at h
       exact absurd (by rw[h.1];simp) hw
      ·exact ih2 (fun x=>hw (by simp[x])) h
    exact key w AA h
  ·rintro(rfl|h)
   ·left
    rw[X7]
    refine⟨rfl,?_⟩
    rw[ht]
    exact⟨t,by simp⟩
   ·right
    exact h.trans (List.suffix_append _ _).isInfix
theorem Po(t:List UInt8):∀ s:List UInt8,0≤Lib.index s t↔t <:+: s
 |[]=>by
  unfold Lib.index
  cases t with
  |nil=>simp
  |cons a t=>simp
 |b::s=>by
  have ih:=Po t s
  rw[List.infix_cons_iff,← ih]
  have hg:=Lib.index_ge s t
  have e0:Lib.index (b::s) t=if t.isPrefixOf (b::s)then 0 else if Lib.index s t == -1 then -1 else Lib.index s t+1:=rfl
  rw[e0]
  cases h:t.isPrefixOf (b::s)with
  |true=>simp only[YX];exact⟨fun _=> .inl (List.isPrefixOf_iff_prefix.1 h),fun _=>by decide⟩
  |false=>
   have hn:¬t <+: b::s:=fun hp=>by rw[List.isPrefixOf_iff_prefix.2 hp]at h;cases h
   simp only[ZU,YV]
   split
   ·rename_i e
    have e:Lib.index s t= -1:=by simpa using e
    simp only[e]
    exact⟨fun h=>absurd h (by decide),fun h=>h.elim (fun h=>absurd h hn) (fun h=>absurd h (by decide))⟩
   ·rename_i e
    have e:Lib.index s t≠-1:=by simpa using e
    exact⟨fun _=> .inr (by omega),fun _=>by omega⟩
theorem Jh(c:UInt8):∀ s:List UInt8,0≤Lib.indexByte s c↔c∈s
 |[]=>by simp[Lib.indexByte]
 |b::s=>by
  have ih:=Jh c s
  have hg:=Lib.indexByte_ge s c
  rw[ZK,← ih]
  have e0:Lib.indexByte (b::s) c=if b == c then 0 else if Lib.indexByte s c == -1 then -1 else Lib.indexByte s c+1:=rfl
  rw[e0]
  by_cases h:b=c
  ·subst h;simp
  ·have h':(b == c)=false:=by simpa using h
   rw[h']
   simp only[ZU,YV]
   split
   ·rename_i e
    have e:Lib.indexByte s c= -1:=by simpa using e
    simp only[e]
    exact⟨fun h=>absurd h (by decide),fun hh=>hh.elim (fun e=>absurd e.symm h) (fun h=>absurd h (by decide))⟩
   ·rename_i e
    have e:Lib.indexByte s c≠-1:=by simpa using e
    exact⟨fun _=> .inr (by omega),fun _=>by omega⟩
theorem aex(s:af)(h0:s.data.toList≠[])(hs:(32:UInt8)∉s.data.toList):Lib.contains (q8 xX) (32::s.data.toList++[32])=decide (KW s):=by
 have h:=Pr s.data.toList hs h0 xX (by decide)
 rw[YN,decide_eq_true_iff]
 unfold Lib.contains
 rw[decide_eq_true_iff,Po]
 exact h
theorem aev{s:af}(h:(32:UInt8)∈s.data.toList):¬KW s:=fun hk=>by
 have:∀ w∈xX,(32:UInt8)∉w:=by decide
 exact this _ hk h
theorem aew{s:af}(h:s.data.toList=[]):¬KW s:=fun hk=>by
 have:∀ w∈xX,w≠[]:=by decide
 exact this _ hk h
theorem Kz{a b:af}(h:a.data.toList=b.data.toList):a=b:=by
 cases a;cases b;congr 1;exact Yw h
theorem KA{s:af}:s=⟨#[]⟩↔s.data.toList=[]:=⟨fun h=>by rw[h],fun h=>Kz h⟩
theorem Sn(a b:af):(a++b).data.toList=a.data.toList++b.data.toList:=by simp
theorem Sq(a:af):a.size=a.data.toList.length:=rfl
theorem P9(s:af)(hs:s.size≤1000):Pure prog 168 [sv s] (.v (.bool (decide (KW s)))):=by
 refine PI.p fun σ=> ?_
 repeat'(first|exact .nil|refine .k0 ?_|refine .k1 ?_|refine .k2 ?_|refine .k4 ?_|refine .k7 ?_|refine .r1 ?_ ?_|refine .an rfl (by intro aI;first|exact Cm _ _|exact Ck _ _ (by decide)) ?_ ?_|fail)
 all_goals(try simp only[BL]at *)
 ·intro _
  simp only[ByteArray.size_append]
  have h1:(⟨#[32]⟩:af).size=1:=rfl
  omega
 ·intro _
  have h1:(⟨#[32]⟩:af).size=1:=rfl
  omega
 refine Sx.Fin.intro Zs ?_
 congr 2
 have e1:(⟨#[32]⟩++s++⟨#[32]⟩:af).data.toList=32::s.data.toList++[32]:=by simp[Sn]
 rw[e1]
 have e2:Lib.contains (q8 xX) (32::s.data.toList++[32])=Lib.contains _ (32::s.data.toList++[32]):=rfl
 by_cases h0:s.data.toList=[]
 ·rw[Zh (aew h0),YJ (KA.2 h0)];rfl
 ·by_cases h1:(32:UInt8)∈s.data.toList
  ·rw[Zh (aev h1),YJ ((Jh _ _).2 h1)];simp
  ·rw[← aex s h0 h1,Zh (fun h=>h0 (KA.1 h)),Zh (fun h=>h1 ((Jh _ _).1 h))]
   simp only[XC,Bool.true_and]
   rfl
theorem Kp{s:af}:s.size=0↔s=⟨#[]⟩:=by
 rw[KA,Sq];exact Yd
theorem ae9(s:af)(NR:s.size≤24):Pure prog 122 [sv s] (.v (.bool (decide (Name s)))):=by
 refine Jq.p fun σ=> ?_
 repeat'(first|exact .nil|refine .k0 ?_|refine .k1 ?_|refine .k2 ?_|refine .k4 ?_|refine .k6 ?_|refine .k7 ?_|refine .k9 ?_|(refine .cd ?_ ?_<;>(intro hc;skip))|refine .r1 ?_ ?_|refine .an rfl (by intro aI;first|exact P9 _ (by first|omega|fail)|fail) ?_ ?_|fail)
 try any_goals(exact Zo)
 all_goals(try simp only[BL]at *)
 ·refine Sx.Fin.intro Zs (bf ?_)
  rintro⟨⟨h1,_⟩,h2⟩
  rcases hc with(hc|hc)|hc
  ·have:=Kp.2 hc;omega
  ·omega
  ·exact h2 hc
 have aE:s.size≠0:=fun h=>hc.1.1 (Kp.1 h)
 refine cr (fun n rg σ'=>∃ i:Nat,i≤s.size∧n=s.size-i∧(0<i→jf (iL s 0).toNat)∧(∀ j,j<i→j2 (iL s j).toNat)∧σ'=σ∧rg=[(0,sv s),(17,iv s.size),(18,iv i)]) s.size rfl ⟨_,_,Zr,Zs,0,ZM _,rfl,fun h=>absurd h (by omega),fun j hj=>absurd hj (by omega),rfl,rfl⟩ ?_
 rintro n _ _ ⟨i,hi,hn,IG,hp,rfl,rfl⟩
 repeat'(first|exact .nil|refine .k0 ?_|refine .k1 ?_|refine .k2 ?_|refine .k4 ?_|refine .k6 ?_|refine .k7 ?_|refine .k8 ?_|refine .k9 ?_|(refine .cd ?_ ?_<;>(intro hc;skip))|refine .r1 ?_ ?_|refine .t5 ?_ ?_ ?_|fail)
 try any_goals(exact Zo)
 all_goals(try simp only[BL]at *)
 ·refine⟨s.size-(i+1),by omega,_,_,Zr,Zs,i+1,by omega,rfl,fun _=> ?_,iM hp (.inl (by simp only[jf];omega)),rfl,by rw[dN (by omega)];rfl⟩
  by_cases h0:i=0
  ·subst h0;simp only[jf];omega
  ·exact IG (by omega)
 ·refine⟨s.size-(i+1),by omega,_,_,Zr,Zs,i+1,by omega,rfl,fun _=>IG (by omega),iM hp ?_,rfl,by rw[dN (by omega)];rfl⟩
  simp only[jf,lG,j2];omega
 ·refine Sx.Fin.intro Zs (bf ?_)
  rintro⟨⟨_,_,h0,h1⟩,_⟩
  have h2:=h1 i (by omega)
  by_cases h3:i=0
  ·subst h3;simp only[jf,lG,j2]at *;omega
  ·simp only[jf,lG,j2]at *;omega
 ·refine Sx.Fin.intro Zs (bt ?_)
  exact⟨⟨by omega,NR,IG (by omega),fun j hj=>hp j (by omega)⟩,by rename_i h1 _;exact h1.2⟩
theorem ae8(s:af)(NR:¬s.size≤24):Pure prog 122 [sv s] (.v (.bool (decide (Name s)))):=by
 refine Jq.p fun σ=> ?_
 repeat'(first|exact .nil|refine .k0 ?_|refine .k1 ?_|refine .k2 ?_|refine .k4 ?_|refine .k6 ?_|refine .k7 ?_|refine .k9 ?_|(refine .cd ?_ ?_<;>(intro hc;skip))|refine .r1 ?_ ?_|refine .an rfl (by intro aI;first|exact P9 _ (by(simp only[BL]at *;omega))|fail) ?_ ?_|fail)
 try any_goals(exact Zo)
 all_goals(try simp only[BL]at *)
 ·refine Sx.Fin.intro Zs (bf ?_)
  rintro⟨⟨_,h2,_⟩,_⟩
  omega
 ·exfalso
  omega
theorem qO(s:af):Pure prog 122 [sv s] (.v (.bool (decide (Name s)))):=by
 by_cases h:s.size≤24
 ·exact ae9 s h
 ·exact ae8 s h
end Go.Proofs.YthdeaajdmdmfnaaGreatDoor
