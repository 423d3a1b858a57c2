import Derived.Test.YtmemninechdogaaGreatDoorGi
import Derived.Test.YtmemninechdogaaGreatDoorCodeA
import Derived.Test.YtmemninechdogaaGreatDoorCodeB
import Derived.Shelf.Strings.Builder1
import Derived.Shelf.Strings.Builder2
import Derived.Shelf.Strings.OnBuilder
import Derived.Shelf.Small.Utf8
import Derived.Shelf.Small.Strs
import Derived.Shelf.Small.Wraps
import Derived.Shelf.Strings.BuilderF
import Derived.Shelf.Strings.BuilderK
import Derived.Shelf.Strings.Builder2Cap
import Derived.Shelf.Strconv.Atoi
import Derived.Shelf.Strconv.Itoa0
import Derived.Shelf.Strconv.Itoa1
import Derived.Shelf.Strconv.Itoa2
import Derived.Shelf.Strconv.Itoa3
import Derived.Shelf.Strings.Search2
import Derived.Shelf.Strings.Search3
import Derived.Shelf.Strings.Shaped
import Derived.Shelf.Strings.BuilderCap
import Derived.Shelf.Bytes.IndexByte
set_option linter.all false
namespace Go.Proofs.YtmemninechdogaaGreatDoor
open _root_.Go.Proofs.Tryz
open Go.Sx Go.Proofs
structure ax where
 name:ae
 exp:Int
deriving DecidableEq,Inhabited
def ax.cells(f:ax):List AV:=[sv f.name,iv f.exp]
structure kv where
 kind:Int
 n:Int
 s:ae
deriving DecidableEq,Inhabited
def kv.cells(v:kv):List AV:=[iv v.kind,iv v.n,sv v.s]
structure pJ where
 kind:Int
 size:Int
deriving DecidableEq,Inhabited
def pJ.cells(w:pJ):List AV:=[iv w.kind,iv w.size]
structure Ty where
 kind:Int
 unit:List ax
 of:ae
deriving DecidableEq,Inhabited
def Ty.cells(t:Ty):List AV:=[iv t.kind,.sl false 2 (t.unit.map ax.cells),sv t.of]
inductive Ex where
 |mk (kind:Int) (op name table:ae) (val:kv) (unit:List ax) (param:Int) (win:pJ) (args:List Ex)
deriving Inhabited
def Ex.kind:Ex->Int|.mk k _ _ _ _ _ _ _ _=>k
def Ex.op:Ex->ae|.mk _ o _ _ _ _ _ _ _=>o
def Ex.name:Ex->ae|.mk _ _ n _ _ _ _ _ _=>n
def Ex.table:Ex->ae|.mk _ _ _ t _ _ _ _ _=>t
def Ex.val:Ex->kv|.mk _ _ _ _ v _ _ _ _=>v
def Ex.unit:Ex->List ax|.mk _ _ _ _ _ u _ _ _=>u
def Ex.param:Ex->Int|.mk _ _ _ _ _ _ p _ _=>p
def Ex.win:Ex->pJ|.mk _ _ _ _ _ _ _ w _=>w
def Ex.args:Ex->List Ex|.mk _ _ _ _ _ _ _ _ ks=>ks
mutual
def Ex.cells:Ex->List AV
 |.mk k o n t v u p w ks=>[iv k,sv o,sv n,sv t,iv v.kind,iv v.n,sv v.s,.sl false 2 (u.map ax.cells),iv p,iv w.kind,iv w.size,.sl false 12 (Ex.CH ks)]
def Ex.CH:List Ex->List (List AV)
 |[]=>[]
 |x::l=>x.cells::Ex.CH l
end
theorem Ex.MW:∀l:List Ex,Ex.CH l=l.map Ex.cells
 |[]=>rfl|x::l=>by rw[Ex.CH,Ex.MW l];rfl
def Ex.row(x:Ex):List AV:=[iv x.kind,sv x.op,sv x.name,sv x.table,iv x.val.kind,iv x.val.n,sv x.val.s,.sl false 2 (x.unit.map ax.cells),iv x.param,iv x.win.kind,iv x.win.size,.sl false 12 (x.args.map Ex.cells)]
theorem Ex.pQ:Ex.cells=Ex.row:=funext fun x=>by cases x;simp only[Ex.cells,Ex.row,Ex.MW,Ex.kind,Ex.op,Ex.name,Ex.table,Ex.val,Ex.unit,Ex.param,Ex.win,Ex.args]
theorem Ex.dX(x:Ex):x.row=[iv x.kind,sv x.op,sv x.name,sv x.table,iv x.val.kind,iv x.val.n,sv x.val.s,.sl false 2 (x.unit.map ax.cells),iv x.param,iv x.win.kind,iv x.win.size,.sl false 12 (x.args.map Ex.row)]:=by rw[<-Ex.pQ];have:=congrFun Ex.pQ x;rw[this];rfl
mutual
def Ex.size:Ex->Nat
 |.mk _ _ _ _ _ _ _ _ ks=>1+Ex.c8 ks
def Ex.c8:List Ex->Nat
 |[]=>0|x::l=>x.size+Ex.c8 l
end
mutual
def Ex.depth:Ex->Nat
 |.mk _ _ _ _ _ _ _ _ ks=>Ex.js ks+1
def Ex.js:List Ex->Nat
 |[]=>0|x::l=>max x.depth (Ex.js l)
end
theorem Ex.yJ(x:Ex):x.size=1+Ex.c8 x.args:=by cases x;rfl
theorem Ex.abG(x:Ex):x.depth=Ex.js x.args+1:=by cases x;rfl
theorem Ex.size_pos(x:Ex):0<x.size:=by rw[Ex.yJ];omega
theorem Ex.KZ{l:List Ex}{y:Ex}(h:y∈l):y.size<=Ex.c8 l:=by
 induction l with
 |nil=>cases h|cons x l ih=>
  rw[Ex.c8];grind
theorem Ex.BF{x y:Ex}(h:y∈x.args):y.size<x.size:=by have:=Ex.KZ h;rw[Ex.yJ x];omega
theorem Ex.Tq{l:List Ex}{i:Nat}(h:i<l.length):Ex.c8 (l.take (i+1))=Ex.c8 (l.take i)+(l.getD i default).size:=by
 induction l generalizing i with
 |nil=>grind|cons x l ih=>
  cases i with
  |zero=>simp[Ex.c8]|succ i=>have:=ih (i:=i) (by grind);simp only[Xo,Ex.c8,List.getD_cons_succ,this];omega
theorem Ex.Tr(l:List Ex)(i:Nat):Ex.c8 (l.take i)<=Ex.c8 l:=by
 induction l generalizing i with
 |nil=>simp|cons x l ih=>
  cases i with
  |zero=>simp[Ex.c8]|succ i=>simp only[Xo,Ex.c8];grind
theorem Ex.abE{l:List Ex}{i:Nat}(h:i<l.length):Ex.js (l.take (i+1))=max (Ex.js (l.take i)) (l.getD i default).depth:=by
 induction l generalizing i with
 |nil=>grind|cons x l ih=>
  cases i with
  |zero=>simp[Ex.js]|succ i=>have:=ih (i:=i) (by grind);simp only[Xo,Ex.js,List.getD_cons_succ,this];omega
mutual
theorem Ex.Nb:∀x:Ex,x.depth<=x.size
 |.mk _ _ _ _ _ _ _ _ ks=>by rw[Ex.depth,Ex.size];have:=Ex.Na ks;omega
theorem Ex.Na:∀l:List Ex,Ex.js l<=Ex.c8 l
 |[]=>ZO _|x::l=>by rw[Ex.js,Ex.c8];have:=Ex.Nb x;have:=Ex.Na l;omega
end
theorem Ex.ind{C:Ex->Prop}(h:∀x,(∀y∈x.args,C y)->C x)(x:Ex):C x:=by
 have:∀n x,Ex.size x<=n->C x:=by
  intro n
  induction n with
  |zero=>intro x hx;have:=Ex.size_pos x;omega|succ n ih=>intro x hx;exact h x fun y hy=>ih y (by have:=Ex.BF hy;omega)
 exact this x.size x (ZO _)
structure wb where
 name:ae
 type:Ty
deriving DecidableEq,Inhabited
def wb.cells(f:wb):List AV:=[sv f.name,iv f.type.kind,.sl false 2 (f.type.unit.map ax.cells),sv f.type.of]
structure aO where
 name:ae
 dh:ae
 fields:List wb
 aH:Int
deriving DecidableEq,Inhabited
def aO.cells(t:aO):List AV:=[sv t.name,sv t.dh,.sl false 4 (t.fields.map wb.cells),iv t.aH]
structure aj where
 name:ae
 dh:ae
 type:Ty
 body:Ex
 version:Int
deriving Inhabited
def aj.cells(f:aj):List AV:=[sv f.name,sv f.dh,iv f.type.kind,.sl false 2 (f.type.unit.map ax.cells),sv f.type.of,iv f.body.kind,sv f.body.op,sv f.body.name,sv f.body.table,iv f.body.val.kind,iv f.body.val.n,sv f.body.val.s,.sl false 2 (f.body.unit.map ax.cells),iv f.body.param,iv f.body.win.kind,iv f.body.win.size,.sl false 12 (f.body.args.map Ex.cells),iv f.version]
structure L1 where
 tables:List aO
 features:List aj
deriving Inhabited
def L1.cells(m:L1):List AV:=[.sl false 4 (m.tables.map aO.cells),.sl false 18 (m.features.map aj.cells)]
set_option maxRecDepth 100000
def dQ(c:Nat):Prop:=97<=c/\c<=122
instance (c:Nat):Decidable (dQ c):=inferInstanceAs (Decidable (_/\_))
def gz(c:Nat):Prop:=48<=c/\c<=57
instance (c:Nat):Decidable (gz c):=inferInstanceAs (Decidable (_/\_))
def eo(c:Nat):Prop:=dQ c\/gz c\/c=95
instance (c:Nat):Decidable (eo c):=inferInstanceAs (Decidable (_\/_))
def Word(s:ae):Prop:=1<=s.size/\s.size<=24/\dQ ((fA s 0).toNat)/\∀i,i<s.size->eo ((fA s i).toNat)
instance (s:ae):Decidable (Word s):=inferInstanceAs (Decidable (_/\_/\_/\_))
theorem dj{P:Nat->Prop}{i:Nat}(h:∀j,j<i->P j)(hi:P i):∀j,j<i+1->P j:=fun j hj=>by grind
theorem Sf(n m:Int)(hm: -1000<=m/\m<=1000):Pure prog 231 [iv n,iv m] (.v (.bool (decide (n>m\/n< -m)))):=by
 refine af1.p fun q=>?_;repeat'(first|exact .nil|refine .k ?_|grind|refine .r1 ?_ ?_|fail)
 try grind
 all_goals(try grind)
 .rw[bn (by omega)]
  (((refine Sx.Fin.intro Zs (bd ?_);(try simp only[BL]at*);(try simp only[dQ,gz,eo,XQ]at*)));grind)
theorem NT(n:Int):Pure prog 160 [iv n] (.v (.bool (decide (n>8\/n< -8)))):=by
 refine afx.p fun q=>?_;repeat'(first|exact .nil|refine .k ?_|grind|refine .r1 ?_ ?_|fail)
 ·(((refine Sx.Fin.intro Zs (bd ?_);grind)))
theorem Rc(c:UInt8):Pure prog 157 [.v (.int .u8 c.toNat)] (.v (.bool (decide (dQ c.toNat)))):=by
 refine afu.p fun q=>?_;repeat'(first|exact .nil|refine .k ?_|grind|refine .r1 ?_ ?_|fail)
 ·(((refine Sx.Fin.intro Zs (bd ?_);(try simp only[dQ,gz,eo,XQ]at*)));grind)
theorem abM(c:UInt8):Pure prog 158 [.v (.int .u8 c.toNat)] (.v (.bool (decide (gz c.toNat)))):=by
 refine afv.p fun q=>?_;repeat'(first|exact .nil|refine .k ?_|grind|refine .r1 ?_ ?_|fail)
 ·(((refine Sx.Fin.intro Zs (bd ?_);(try simp only[dQ,gz,eo,XQ]at*)));grind)
theorem UK(s:ae):Pure prog 230 [sv s] (.v (.bool (decide (Word s)))):=by
 refine af0.p fun q=>?_;repeat'(first|exact .nil|refine .k ?_|grind|(refine .cd ?_ ?_<;>intro hc)|refine .r1 ?_ ?_|refine .t5 ?_ ?_ ?_|fail)
 try any_goals(exact Zo)
 all_goals(try simp only[BL]at*)
 .refine Sx.Fin.intro Zs (bf ?_);rintro⟨h1,h2,h3,h4⟩;simp only[dQ,gz,eo]at h3;omega
 refine aP (fun n rg af=>∃i:Nat,i<=s.size/\n=s.size-i/\(∀j,j<i->eo ((fA s j).toNat))/\af=q/\rg=[(0,sv s),(24,iv s.size),(25,iv i)]) s.size rfl ⟨_,_,Zr,Zs,0,Z4 _,rfl,fun j hj=>absurd hj (by omega),rfl,rfl⟩ ?_;rintro n _ _ ⟨i,hi,hn,hp,rfl,rfl⟩;repeat'(first|exact .nil|refine .k ?_|(refine .cd ?_ ?_<;>intro hc)|refine .r1 ?_ ?_|refine .t5 ?_ ?_ ?_|fail)
 try any_goals(exact Zo)
 all_goals(try simp only[BL]at*)
 .refine Sx.Fin.intro Zs (bf ?_);rintro⟨h1,h2,h3,h4⟩;have:=h4 i (by omega);simp only[dQ,gz,eo]at this;omega
 .refine⟨s.size-(i+1),by omega,_,_,Zr,Zs,i+1,by omega,rfl,dj hp ?_,rfl,by rw[bn (by omega)];rfl⟩;simp only[dQ,gz,eo];omega
 .refine Sx.Fin.intro Zs (bt ?_);refine⟨by omega,by omega,by simp only[dQ,gz,eo];omega,fun j hj=>hp j (by omega)⟩
theorem UJ(s:ae):Pure prog 159 [sv s] (.v (.bool (decide (Word s)))):=by
 refine afw.p fun q=>?_;repeat'(first|exact .nil|refine .k ?_|grind|(refine .cd ?_ ?_<;>intro hc)|refine .r1 ?_ ?_|refine .t5 ?_ ?_ ?_|fail)
 try any_goals(exact Zo)
 all_goals(try simp only[BL]at*)
 .refine Sx.Fin.intro Zs (bf ?_);rintro⟨h1,h2,h3,h4⟩;simp only[dQ,gz,eo]at h3;omega
 refine aP (fun n rg af=>∃i:Nat,i<=s.size/\n=s.size-i/\(∀j,j<i->eo ((fA s j).toNat))/\af=q/\rg=[(0,sv s),(3,iv i)]) s.size rfl ⟨_,_,Zr,Zs,0,Z4 _,rfl,fun j hj=>absurd hj (by omega),rfl,rfl⟩ ?_;rintro n _ _ ⟨i,hi,hn,hp,rfl,rfl⟩;repeat'(first|exact .nil|refine .k ?_|(refine .cd ?_ ?_<;>intro hc)|refine .r1 ?_ ?_|refine .t5 ?_ ?_ ?_|fail)
 try any_goals(exact Zo)
 all_goals(try simp only[BL]at*)
 .refine Sx.Fin.intro Zs (bf ?_);rintro⟨h1,h2,h3,h4⟩;have:=h4 i (by omega);simp only[dQ,gz,eo]at this;omega
 .refine⟨s.size-(i+1),by omega,_,_,Zr,Zs,i+1,by omega,rfl,dj hp ?_,rfl,by rw[bn (by omega)];rfl⟩;simp only[dQ,gz,eo];omega
 .refine Sx.Fin.intro Zs (bt ?_);refine⟨by omega,by omega,by simp only[dQ,gz,eo];omega,fun j hj=>hp j (by omega)⟩
end Go.Proofs.YtmemninechdogaaGreatDoor
namespace Go.Proofs
open Go.Shelf
def Tryz.lays156_ren:Go.Shelf.Ren:=⟨fun|156=>88|165=>143|166=>40|169=>44|240=>89|241=>196|276=>144|277=>245|n=>n,fun|31=>85|9=>9|3=>3|4=>4|0=>0|20=>20|72=>100|76=>105|70=>98|37=>76|75=>104|127=>153|164=>214|5=>5|80=>111|n=>n,fun|n=>n⟩
theorem Tryz.lays156:Go.Proofs.Lays.n156 Tryz.prog Tryz.lays156_ren:=Go.Sx.KX
theorem Tryz.Builder_Extra_156:Builder.Extra Tryz.prog Tryz.lays156_ren:={
 sizeBuilder:=by kernel_rfl
 liesBuilder:=by kernel_rfl
 t5:=Tryz.underlying5
 a5:=Tryz.isAgg5
 z5:=Tryz.sizeOf5
 v5:=Tryz.zeroValue5
 infoByte:=by kernel_rfl
 cellsByte:=by kernel_rfl
 sizeByte:=by kernel_rfl
 neB5:=by decide}
open Go.RowKit in
theorem Tryz.strings_Join_none(a:Option Addr)(c:Nat)(sep:ByteArray)(w:World):
  Calls Tryz.prog 88 #[.slice a 0 c,.string sep] w fun e w'=>e= .returned (.string ⟨#[]⟩)/\w'=w:=Any.strings_Join_none Tryz.lays156 Tryz.Builder_Extra_156 a c sep w
open Go.RowKit in
theorem Tryz.strings_Join(bk o c:Nat)(xs:List ByteArray)(sep:ByteArray)(w:World)(vy:∀(j:Nat) x,xs[j]? =some x->w.cell? ⟨bk,o+j,none⟩=some (.string x))(Ah:bk<w.heap.size)(hN:xs.length<=140737488355328)(tB:xs.length<=c)(hlen:(Lib.join (xs.map (·.data.toList)) sep.data.toList).length<=140737488355328):
  Calls Tryz.prog 88 #[.slice (some ⟨bk,o,none⟩) xs.length c,.string sep] w fun e w'=>e= .returned (.string ⟨(Lib.join (xs.map (·.data.toList)) sep.data.toList).toArray⟩)/\Below w.heap.size w w':=Any.strings_Join Tryz.lays156 Tryz.Builder_Extra_156 bk o c xs sep w vy Ah hN tB hlen
def Tryz.lays121_ren:Go.Shelf.Ren:=⟨fun|121=>345|214=>365|n=>n,fun|4=>4|9=>9|n=>n,fun|n=>n⟩
theorem Tryz.lays121:Go.Proofs.Lays.n121 Tryz.prog Tryz.lays121_ren:=Go.Sx.KX
open Go.RowKit in
theorem Tryz.strconv_FormatBool(b:Bool)(w:World):
  Calls Tryz.prog 345 #[.bool b] w fun e w'=>e= .returned (.string ⟨(Lib.formatBool b).toArray⟩)/\w'=w:=Any.strconv_FormatBool Tryz.lays121 b w
def Tryz.laysM171_ren:Go.Shelf.Ren:=⟨fun|171=>42|243=>93|246=>147|283=>206|284=>207|285=>208|286=>209|129=>252|317=>251|318=>253|319=>254|320=>255|337=>308|338=>309|n=>n,fun|3=>3|9=>9|2=>2|4=>4|171=>278|0=>0|53=>56|37=>76|5=>5|173=>281|212=>315|51=>316|20=>20|213=>317|46=>176|232=>371|233=>372|n=>n,fun|17=>3|18=>5|19=>6|n=>n⟩
theorem Tryz.laysM171:Go.Proofs.LaysM.n171 Tryz.prog Tryz.laysM171_ren:=Go.Sx.KX
open Go.RowKit Go.Sort Go.Lib in
theorem Tryz.strconv_Itoa(n:Int)(h0: -9223372036854775808≤n)(h1:n≤9223372036854775807)(w:World)(an9:Lib.TabIs Tryz.prog w "internal/strconv.uint64pow10" .u64 Lib.pow10Tab):
  Calls Tryz.prog 42 #[.int .i64 n] w fun e w'=>e= .returned (.string ⟨(Lib.itoa n).toArray⟩)/\∃k os,w'=grow (w.drewN k) os:=Any.strconv_Itoa Tryz.laysM171 n h0 h1 w an9
def Tryz.lays144_ren:Go.Shelf.Ren:=⟨fun|144=>197|143=>246|219=>301|217=>320|225=>319|224=>343|267=>344|266=>313|314=>364|n=>n,fun|9=>9|4=>4|3=>3|5=>5|46=>176|146=>386|51=>316|n=>n,fun|1=>4|n=>n⟩
theorem Tryz.lays144:Go.Proofs.Lays.n144 Tryz.prog Tryz.lays144_ren:=Go.Sx.KX
open Go.RowKit Go.Lib in
theorem Tryz.strings_Contains_one(s:ByteArray)(c:UInt8)(w:World):
  Calls Tryz.prog 197 #[.string s,.string ⟨#[c]⟩] w fun e w'=>e= .returned (.bool (decide (0<=Lib.indexByte s.data.toList c)))/\w'=w:=Any.strings_Contains_one Tryz.lays144 s c w
open Go.RowKit Go.Lib in
theorem Tryz.strings_Contains(s sub:ByteArray)(m:Int)(w:World)(hs:s.size<4294967281)(hm:w.cell? ⟨4,0,none⟩=some (.int .i64 m)):
  Calls Tryz.prog 197 #[.string s,.string sub] w fun e w'=>e= .returned (.bool (Lib.contains s.data.toList sub.data.toList))/\w'=w:=Any.strings_Contains Tryz.lays144 s sub m w hs hm
def Tryz.lays187_ren:Go.Shelf.Ren:=⟨fun|187=>258|255=>310|n=>n,fun|37=>76|5=>5|3=>3|n=>n,fun|n=>n⟩
theorem Tryz.lays187:Go.Proofs.Lays.n187 Tryz.prog Tryz.lays187_ren:=Go.Sx.KX
theorem Tryz.bytes_IndexByte(b o n c:Nat)(xs:List Int)(cv:Int)(w:World)(hx:xs.length=n)(hc:∀i,i<n->w.cell? ⟨b,o+i,none⟩=some (.int .u8 (xs.getD i 0))):
  Calls Tryz.prog 258 #[.slice (some ⟨b,o,none⟩) n c,.int .u8 cv] w fun e w'=>e= .returned (.int .i64 (Lib.indexByte (Lib.bytesOf xs) cv.toNat.toUInt8))/\w'=w:=Any.bytes_IndexByte Tryz.lays187 b o n c xs cv w hx hc
end Go.Proofs
namespace Go.Proofs.YtmemninechdogaaGreatDoor
open _root_.Go.Proofs.Tryz
open Go.Sx Go.Proofs Go.RowKit
theorem BH{M:Mem}{s:ae}{v:Value}(h:R M (sv s) v):v= .string s:=h.aC
theorem ahH{M:Mem}{w0:Base}{w:World}{q:Store}(hI:Inv prog M w0 q w):∃m,w.cell? ⟨4,0,none⟩=some (.int .i64 m):=by obtain⟨b,off,cs,hv,hM,hR⟩:=(hI.gl 4 [.ai .i64] rfl).uj;obtain⟨n,hn⟩:=(hR 0 (by simp)).aii;have h1:=hI.bZ _ _ _ (hM 0 (by simp));grind
theorem CP(s:ae)(c:UInt8):Pure prog 197 [sv s,sv ⟨#[c]⟩] (.v (.bool (decide (0<=Lib.indexByte s.data.toList c)))):=by refine Pure.wI fun M w0 w q cs hI hR=>?_;obtain⟨v1,vs,rfl,h1,h2⟩:=hR.aZ;obtain⟨v2,rfl,h3⟩:=h2.cR;obtain rfl:=BH h1;obtain rfl:=BH h3;exact(Tryz.strings_Contains_one s c w).mono fun e w' ⟨he,hw⟩=>⟨⟨_,he,.v _⟩,by rw[hw];exact Below.refl _ _⟩
theorem CO(s t:ae)(hs:s.size<4294967281):Pure prog 197 [sv s,sv t] (.v (.bool (Lib.contains s.data.toList t.data.toList))):=by refine Pure.wI fun M w0 w q cs hI hR=>?_;obtain⟨v1,vs,rfl,h1,h2⟩:=hR.aZ;obtain⟨v2,rfl,h3⟩:=h2.cR;obtain rfl:=BH h1;obtain rfl:=BH h3;obtain⟨m,hm⟩:=ahH hI;exact(Tryz.strings_Contains s t m w hs hm).mono fun e w' ⟨he,hw⟩=>⟨⟨_,he,.v _⟩,by rw[hw];exact Below.refl _ _⟩
theorem apR(b:Bool):Pure prog 345 [.v (.bool b)] (sv ⟨(Lib.formatBool b).toArray⟩):=by refine Pure.wI fun M w0 w q cs hI hR=>?_;obtain⟨v1,rfl,h1⟩:=hR.cR;obtain rfl:=h1.aC;exact(Tryz.strconv_FormatBool b w).mono fun e w' ⟨he,hw⟩=>⟨⟨_,he,.v _⟩,by rw[hw];exact Below.refl _ _⟩
theorem apr(w:World)(n:Nat)(os:Array Obj):Below w.heap.size w (Go.Sort.grow (w.drewN n) os):=
 ⟨rfl,rfl,rfl,by simp_all,fun k hk=>by show(w.heap++os)[k]? =_;grind⟩
def ae1(n:Int):ae:=⟨(Lib.itoa n).toArray⟩
theorem anw(n:Int)(h: -9223372036854775808<=n/\n<=9223372036854775807):Pure prog 42 [iv n] (sv (ae1 n)):=by
 refine Pure.wI fun M w0 w q cs hI hR=> ?_;obtain⟨v1,rfl,h1⟩:=hR.cR;obtain rfl:=h1.aC;have an9:Lib.TabIs prog w "internal/strconv.uint64pow10" .u64 Lib.pow10Tab:=by
  obtain⟨g1,g2⟩:=hI.gw;have hg:prog.globalNamed "internal/strconv.uint64pow10" =some 3:=by kernel_rfl
  unfold Lib.TabIs World.var? at g1|-;rw[hg]at g1|-;simp only[Option.bind_some]at g1|-;rw[hI.old _ g2];exact g1
 refine(Tryz.strconv_Itoa n h.1 h.2 w an9).mono fun e w' ⟨he,k,os,hw⟩=>⟨⟨_,he,.v _⟩,?_⟩
 rw[hw];exact apr w k os
def Qn(ws:List ae)(sep:ae):ae:=⟨(Lib.join (ws.map (·.data.toList)) sep.data.toList).toArray⟩
theorem A5(ws:List ae)(sep:ae)(nn:Bool)(hN:ws.length<=140737488355328)(hlen:(Lib.join (ws.map (·.data.toList)) sep.data.toList).length<=140737488355328):
  Pure prog 88 [.sl nn 1 (ws.map dq),sv sep] (sv (Qn ws sep)):=by
 refine Pure.wI fun M w0 w q cs hI hR=>?_;obtain⟨v1,vs,rfl,h1,h2⟩:=hR.aZ;obtain⟨v2,rfl,h3⟩:=h2.cR;obtain rfl:=BH h3;rcases h1.nT with⟨a,_,h,rfl⟩|⟨b,off,cap,cs,rfl,hr,h4,h5⟩
 .have:ws=[]:=by simp_all
  subst this;exact(Tryz.strings_Join_none a 0 sep w).mono fun e w' ⟨he,hw⟩=>⟨⟨_,he,.v _⟩,by rw[hw];exact Below.refl _ _⟩
 .cases ws with
  |nil=>exact(Tryz.strings_Join_none (some ⟨b,off,none⟩) cap sep w).mono fun e w' ⟨he,hw⟩=>⟨⟨_,he,.v _⟩,by rw[hw];exact Below.refl _ _⟩
  |cons x ws=>
   have vy:∀(j:Nat) y,(x::ws)[j]? =some y->w.cell? ⟨b,off+j,none⟩=some (.string y):=fun j y hy=>by
    obtain⟨hj,e⟩:=ZG.1 hy;have dU:j<((x::ws).map dq).length:=by grind
    have h6:=hI.bZ _ _ _ (hr.mem j (by grind));have e2:((x::ws).map dq)[j]=[sv y]:=by rw[Zv,e];rfl
    have h7:=hr.rel j dU 0 (by grind);simp only[e2,Yq,Yt,Yr]at h7;rw[h6,h7.aC]
   have Ah:b<w.heap.size:=by have:=World.block_lt_of_cell? _ _ (vy 0 x rfl);grind
   have:=Tryz.strings_Join b off cap (x::ws) sep w vy Ah hN (by grind) hlen;simp at this|-;exact this.mono fun e w' ⟨he,hw⟩=>⟨⟨_,he,.v _⟩,hw⟩
end Go.Proofs.YtmemninechdogaaGreatDoor
set_option maxRecDepth 100000
namespace Go.Proofs.YtmemninechdogaaGreatDoor
open _root_.Go.Proofs.Tryz
open Go.Sx Go.Proofs
def tY:List (List UInt8):=[[116,97,98,108,101],[102,101,97,116,117,114,101],[111,102],[107,101,101,112],[98,111,111,108],[116,101,120,116],[107,101,121],[105,110,116],[100,101,99],[105,102],[116,104,101,110],[101,108,115,101],[100,101,102,97,117,108,116],[111,114],[97,110,100],[110,111,116],[116,114,117,101],[102,97,108,115,101],[110,117,108,108],
 [99,111,117,110,116],[115,117,109],[109,101,97,110],[109,105,110],[109,97,120],[102,105,114,115,116],[108,97,115,116],[100,105,115,116,105,110,99,116],[113,117,97,110,116,105,108,101],[100,101,99,97,121],[97,108,108],[115,108,105,100,105,110,103],[116,117,109,98,108,105,110,103],[115,101,115,115,105,111,110],[119,104,101,114,101]]
def KW(s:ae):Prop:=s.data.toList∈tY
instance (s:ae):Decidable (KW s):=inferInstanceAs (Decidable (_∈_))
def Name(s:ae):Prop:=Word s/\¬KW s
instance (s:ae):Decidable (Name s):=inferInstanceAs (Decidable (_/\_))
def sd:List (List UInt8)->List UInt8
 |[]=>[32]
 |w::ws=>32::w++sd ws
theorem Qb(s:List UInt8)(hs:(32:UInt8)∉s)(qe:s≠[]):∀(ws:List (List UInt8)),(∀w∈ws,(32:UInt8)∉w)->((32::s++[32]) <:+: sd ws↔s∈ws)
 |[],_=>by simp only[sd,Yj,iff_false];intro h;have:=h.length_le;grind|w::ws,hw=>by
  have ih:=Qb s hs qe ws (fun x hx=>hw x (by simp[hx]));have AW:=hw w (by simp);have dM:∃t,sd ws=32::t:=by cases ws<;>exact⟨_,rfl⟩
  obtain⟨t,ht⟩:=dM;rw[ZR,<-ih];simp only[sd,ZB];rw[List.infix_cons_iff];constructor
  .rintro(h|h)
   .left;rw[XY]at h;have h:=h.2;rw[ht]at h;have key:∀(s w t:List UInt8),(32:UInt8)∉s->(32:UInt8)∉w->s++[32] <+: w++32::t->s=w:=by
     intro s
     induction s with
     |nil=>
      intro w t _ hw h;cases w with
      |nil=>rfl|cons a w=>grind
     |cons a s ih=>
      intro w t hs hw h;cases w with
      |nil=>grind|cons b w=>grind
    grind
   .right;have key:∀(w:List UInt8),(32:UInt8)∉w->(32::s++[32]) <:+: w++sd ws->(32::s++[32]) <:+: sd ws:=by
     intro w
     induction w with
     |nil=>grind|cons a w ih2=>
      intro hw h;simp only[ZB]at h;rw[List.infix_cons_iff]at h;rcases h with h|h
      .rw[XY]at h;exact absurd (by rw[h.1];simp) hw
      grind
    grind
  .rintro(rfl|h)
   .left;rw[XY];refine⟨rfl,?_⟩;rw[ht];exact⟨t,by simp⟩
   .right;exact h.trans (List.suffix_append _ _).isInfix
theorem P8(t:List UInt8):∀s:List UInt8,0<=Lib.index s t↔t <:+: s
 |[]=>by unfold Lib.index;grind|b::s=>by
  have ih:=P8 t s;rw[List.infix_cons_iff,<-ih];have e0:Lib.index (b::s) t=if t.isPrefixOf (b::s)then 0 else if Lib.index s t == -1 then -1 else Lib.index s t+1:=rfl
  grind
theorem JN(c:UInt8):∀s:List UInt8,0<=Lib.indexByte s c↔c∈s
 |[]=>by simp[Lib.indexByte]|b::s=>by
  have ih:=JN c s;have e0:Lib.indexByte (b::s) c=if b == c then 0 else if Lib.indexByte s c == -1 then -1 else Lib.indexByte s c+1:=rfl
  grind
theorem ahj(s:ae)(h0:s.data.toList≠[])(hs:(32:UInt8)∉s.data.toList):Lib.contains (sd tY) (32::s.data.toList++[32])=decide (KW s):=by have h:=Qb s.data.toList hs h0 tY (by decide);rw[YH,decide_eq_true_iff];unfold Lib.contains;rw[decide_eq_true_iff,P8];exact h
theorem ahh{s:ae}(h:(32:UInt8)∈s.data.toList):¬KW s:=fun hk=>by
 have:∀w∈tY,(32:UInt8)∉w:=by decide
 exact this _ hk h
theorem ahi{s:ae}(h:s.data.toList=[]):¬KW s:=fun hk=>by
 have:∀w∈tY,w≠[]:=by decide
 exact this _ hk h
theorem Fg{a b:ae}(h:a.data.toList=b.data.toList):a=b:=by cases a;cases b;congr 1;exact Ym h
theorem La{s:ae}:s=⟨#[]⟩↔s.data.toList=[]:=⟨fun h=>by rw[h],fun h=>Fg h⟩
theorem TG(a b:ae):(a++b).data.toList=a.data.toList++b.data.toList:=by simp
theorem Fh(a:ae):a.size=a.data.toList.length:=rfl
theorem QY(s:ae)(hs:s.size<=1000):Pure prog 145 [sv s] (.v (.bool (decide (KW s)))):=by
 refine Qv.p fun q=>?_;repeat'(first|exact .nil|refine .k ?_|grind|refine .r1 ?_ ?_|refine .an rfl (by intro ar;first|exact CP _ _|exact CO _ _ (by decide)) ?_ ?_|fail)
 all_goals(try omega)
 .intro _;simp only[ByteArray.size_append];have h1:(⟨#[32]⟩:ae).size=1:=rfl;omega
 .intro _;have h1:(⟨#[32]⟩:ae).size=1:=rfl;omega
 refine Sx.Fin.intro Zs ?_
 congr 2
 have e1:(⟨#[32]⟩++s++⟨#[32]⟩:ae).data.toList=32::s.data.toList++[32]:=by simp[TG]
 rw[e1];have e2:Lib.contains (sd tY) (32::s.data.toList++[32])=Lib.contains _ (32::s.data.toList++[32]):=rfl;by_cases h0:s.data.toList=[]
 .rw[Zp (ahi h0),Y7 (La.2 h0)];rfl
 .by_cases h1:(32:UInt8)∈s.data.toList
  .rw[Zp (ahh h1),Y7 ((JN _ _).2 h1)];simp
  .rw[<-ahj s h0 h1,Zp (fun h=>h0 (La.1 h)),Zp (fun h=>h1 ((JN _ _).1 h))];simp only[Xt,Bool.true_and];rfl
set_option maxHeartbeats 4000000 in
theorem ahc(s:ae):Pure prog 113 [sv s] (.v (.bool (decide (KW s)))):=by
 refine ae9.p fun q=>?_;repeat'(first|exact .nil|refine .k ?_|(refine .cd ?_ ?_<;>(intro hc;first|exact kf hc (by assumption)|skip))|refine .r1 ?_ ?_|fail)
 all_goals(try simp only[BL]at*)
 all_goals first
  |(refine Sx.Fin.intro Zs (bt ?_)
    subst hc
    decide)
  |(refine Sx.Fin.intro Zs (bf ?_)
    intro hk;have bW:∀w∈tY,s≠⟨w.toArray⟩:=by simp only[tY,List.forall_mem_cons];repeat'(first|assumption|(intro _ h;cases h;done)|refine⟨?_,?_⟩)
    exact bW _ hk (Fg (by simp)))
theorem yK{s:ae}:s.size=0↔s=⟨#[]⟩:=by rw[La,Fh];exact Yi
theorem ahZ(s:ae)(OH:s.size<=24):Pure prog 90 [sv s] (.v (.bool (decide (Name s)))):=by
 refine JX.p fun q=>?_;repeat'(first|exact .nil|refine .k ?_|grind|(refine .cd ?_ ?_<;>intro hc)|refine .r1 ?_ ?_|refine .an rfl (by intro ar;first|exact QY _ (by first|omega|fail)|fail) ?_ ?_|fail)
 try any_goals(exact Zo)
 all_goals(try simp only[BL]at*)
 .refine Sx.Fin.intro Zs (bf ?_);rintro⟨⟨h1,_⟩,h2⟩;rcases hc with(hc|hc)|hc
  .have:=yK.2 hc;omega
  .omega
  .exact h2 hc
 have aW:s.size≠0:=fun h=>hc.1.1 (yK.1 h);refine aP (fun n rg af=>∃i:Nat,i<=s.size/\n=s.size-i/\(0<i->dQ (fA s 0).toNat)/\(∀j,j<i->eo (fA s j).toNat)/\af=q/\rg=[(0,sv s),(17,iv s.size),(18,iv i)]) s.size rfl ⟨_,_,Zr,Zs,0,Z4 _,rfl,fun h=>absurd h (by omega),fun j hj=>absurd hj (by omega),rfl,rfl⟩ ?_;rintro n _ _ ⟨i,hi,hn,Ji,hp,rfl,rfl⟩;repeat'(first|exact .nil|refine .k ?_|(refine .cd ?_ ?_<;>intro hc)|refine .r1 ?_ ?_|refine .t5 ?_ ?_ ?_|fail)
 try any_goals(exact Zo)
 all_goals(try simp only[BL]at*)
 .refine⟨s.size-(i+1),by omega,_,_,Zr,Zs,i+1,by omega,rfl,fun _=>?_,dj hp (.inl (by simp only[dQ];omega)),rfl,by rw[bn (by omega)];rfl⟩;by_cases h0:i=0
  .subst h0;simp only[dQ];omega
  .exact Ji (by omega)
 .refine⟨s.size-(i+1),by omega,_,_,Zr,Zs,i+1,by omega,rfl,fun _=>Ji (by omega),dj hp ?_,rfl,by rw[bn (by omega)];rfl⟩;simp only[dQ,gz,eo];omega
 .refine Sx.Fin.intro Zs (bf ?_);rintro⟨⟨_,_,h0,h1⟩,_⟩;have h2:=h1 i (by omega);by_cases h3:i=0
  .subst h3;simp only[dQ,gz,eo]at*;omega
  .simp only[dQ,gz,eo]at*;omega
 .refine Sx.Fin.intro Zs (bt ?_);exact⟨⟨by omega,OH,Ji (by omega),fun j hj=>hp j (by omega)⟩,by rename_i h1 _;exact h1.2⟩
theorem ahY(s:ae)(OH:¬s.size<=24):Pure prog 90 [sv s] (.v (.bool (decide (Name s)))):=by
 refine JX.p fun q=>?_;repeat'(first|exact .nil|refine .k ?_|simp_all|simp_all|refine .k ?_|simp_all|(refine .cd ?_ ?_<;>intro hc)|refine .r1 ?_ ?_|refine .an rfl (by intro ar;first|exact QY _ (by(grind))|fail) ?_ ?_|fail)
 try grind
 all_goals(try simp only[BL]at*)
 .refine Sx.Fin.intro Zs (bf ?_);rintro⟨⟨_,h2,_⟩,_⟩;omega
 grind
theorem rO(s:ae):Pure prog 90 [sv s] (.v (.bool (decide (Name s)))):=by
 by_cases h:s.size<=24
 .exact ahZ s h
 .exact ahY s h
def sB(l:List UInt8)(at_:Nat):Nat:=match l.drop at_ with
 |[]=>0|c::t=>if dQ c.toNat then 1+(t.takeWhile fun c=>decide (eo c.toNat)).length else 0
theorem TR{z:Type}[Inhabited z](p:z->Bool):∀(t:List z) (n:Nat),n<=t.length->(∀j,j<n->p (t.getD j default)=true)->(n=t.length\/p (t.getD n default)=false)->(t.takeWhile p).length=n
 |[],n,h,_,_=>by simp_all|c::t,0,_,_,h=>by simp_all|c::t,n+1,h,ha,he=>by
  have h0:p c=true:=by simpa using ha 0 (by omega)
  rw[List.takeWhile_cons,h0];simp;rw[TR p t n (by grind) (fun j hj=>by grind) (by grind)]
theorem UF{l:List UInt8}{k:Nat}(hk:k<l.length)(h:¬dQ (l.getD k default).toNat):sB l k=0:=by unfold sB;rw[tc hk];simp only[Z9 h]
theorem UG{l:List UInt8}{k n:Nat}(hk:k<l.length)(h:dQ (l.getD k default).toNat)(hn:1<=n)(hle:k+n<=l.length)(ha:∀j,1<=j->j<n->eo (l.getD (k+j) default).toNat)(he:k+n=l.length\/¬eo (l.getD (k+n) default).toNat):sB l k=n:=by
 unfold sB;rw[tc hk];simp only[Z3 h];have e:∀j,(l.drop (k+1)).getD j default=l.getD (k+(j+1)) default:=fun j=>by grind
 rw[TR _ _ (n-1) (by grind) (fun j hj=>by rw[e];exact Y7 (ha (j+1) (by omega) (by omega)))]
 .omega
 grind
theorem amp(l:List UInt8)(k:Nat)(nn:Bool)(hk:k<l.length)(hl:l.length<=9000000000000000000):Pure prog 112 [.sl nn 1 (l.map dB),iv k] (iv (sB l k)):=by
 refine ae8.p fun q=>?_;repeat'(first|exact .nil|refine .k ?_|(refine .cd ?_ ?_<;>intro hc)|refine .r1 ?_ ?_|refine .t1 ?_ ?_ ?_|refine .an rfl (by intro ar;first|exact Rc _|fail) ?_ ?_|fail)
 try any_goals(exact Zo)
 all_goals(try simp only[BL]at*)
 .rw[UF hk hc];exact Zw
 refine aP (fun n rg af=>∃i:Nat,1<=i/\k+i<=l.length/\n=l.length-i/\(∀j,1<=j->j<i->eo (l.getD (k+j) default).toNat)/\af=q/\rg=[(0,.sl nn 1 (l.map dB)),(1,iv k),(5,iv i)]) (l.length-1) rfl ⟨_,_,Zr,Zs,1,ZO _,by omega,rfl,fun j h1 h2=>absurd h2 (by omega),rfl,rfl⟩ ?_;rintro n _ _ ⟨i,hi,hle,hn,hp,rfl,rfl⟩;repeat'(first|exact .nil|refine .k ?_|(refine .cd ?_ ?_<;>intro hc)|refine .r1 ?_ ?_|(refine .m2 ?_ ?_;intro hlen)|refine .t1 ?_ ?_ ?_|refine .an rfl (by intro ar;first|exact Rc _|exact abM _) ?_ ?_|fail)
 all_goals(try simp only[BL]at*)
 all_goals(have hw:IntKind.i64.wrap ((k:Int)+i)=((k+i:Nat):Int):=by rw[bn (by omega)];omega)
 all_goals(simp only[hw,Yk]at*)
 .refine⟨l.length-(i+1),by omega,_,_,Zr,Zs,i+1,by omega,by omega,rfl,fun j h1 h2=>?_,rfl,by rw[bn (by omega)];rfl⟩;by_cases h:j<i
  .exact hp j h1 h
  .obtain rfl:j=i:=by omega
   rcases hc.2 with(h3|h3)|h3
   .exact .inl h3
   .exact .inr (.inl h3)
   .exact .inr (.inr (by omega))
 .have h0:dQ (l.getD k default).toNat:=by assumption
  rw[UG hk h0 hi hle hp (by
   rcases hc with h1|h1
   .left;omega
   .right;rintro(h3|h3|h3)
    .exact h1.1.1 h3
    .exact h1.1.2 h3
    .exact h1.2 (by omega))]
  exact Zw
 all_goals(intro h1;omega)
theorem UH{s:ae}(h1:1<=s.size):(sB s.data.toList 0=s.size)↔(dQ (fA s 0).toNat/\∀i,i<s.size->eo (fA s i).toNat):=by
 have hl:s.data.toList.length=s.size:=rfl;have hb:∀i,s.data.toList.getD i default=fA s i:=fun i=>rfl;constructor
 .intro h;have h0:dQ (fA s 0).toNat:=by
   by_cases h2:dQ (fA s 0).toNat
   .exact h2
   .rw[UF (by omega) (by grind)]at h;omega
  refine⟨h0,fun i hi=>?_⟩;by_cases eH:i=0
  .subst eH;exact .inl h0
  .unfold sB at h;rw[tc (by omega:0<s.data.toList.length),hb]at h;simp only[ZH,Z3 h0]at h;have hlen:(s.data.toList.drop 1).length=s.size-1:=by grind
   have mR:=List.takeWhile_prefix (p:=fun c:UInt8=>decide (eo c.toNat)) (l:=s.data.toList.drop 1);have heq:=mR.eq_of_length (by omega);have fx:fA s i∈s.data.toList.drop 1:=by rw[YO];exact⟨i-1,by omega,by grind⟩
   rw[← heq]at fx;have:=ZA.1 (List.all_takeWhile (p:=fun c:UInt8=>decide (eo c.toNat)) (l:=s.data.toList.drop 1)) _ fx;grind
 .rintro⟨h0,h⟩;exact UG (by omega) (by grind) h1 (by omega) (fun j _ hj=>by grind) (.inl (by omega))
theorem amo(s:ae)(h:¬s=⟨#[]⟩/\s.size<=24):Pure prog 112 [.sl true 1 (s.data.toList.map dB),iv 0] (iv (sB s.data.toList 0)):=by have h0:s.size≠0:=fun e=>h.1 (yK.1 e);exact amp s.data.toList 0 true (by rw[<-Fh];omega) (by rw[<-Fh];omega)
theorem ug(s:ae):Pure prog 59 [sv s] (.v (.bool (decide (Name s)))):=by
 refine k59.p fun q=>?_;repeat'(first|exact .nil|refine .k ?_|grind|refine .r1 ?_ ?_|refine .an rfl (by intro ar;first|exact ahc _|exact amo _ (by grind)) ?_ ?_|refine .t7 ?_ ?_ ?_|fail)
 try grind
 all_goals(try grind)
 ·(refine Sx.Fin.intro Zs (bd ?_);(try simp only[BL]at*);(try simp only[dQ,gz,eo,XQ]at*))
  unfold Name Word;constructor
  .rintro⟨h1,h2,h3,h4⟩;have h0:s.size≠0:=fun e=>h1 (yK.1 e);have h6:sB s.data.toList 0=s.size:=by omega
   have h5:=(UH (by omega)).1 h6;exact⟨⟨by omega,by omega,h5⟩,h4⟩
  .rintro⟨⟨h1,h2,h3⟩,h4⟩;have h5:=(UH h1).2 h3;exact⟨fun e=>by have:=yK.2 e;omega,by omega,by omega,h4⟩
