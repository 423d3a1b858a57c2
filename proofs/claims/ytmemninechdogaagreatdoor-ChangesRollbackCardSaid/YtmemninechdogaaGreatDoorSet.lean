import Derived.Maps.OwnSet
import Derived.Maps.RangeWalk
import Derived.Sort.MapsRangeIn
import Derived.Sort.KeysCollected
import Derived.Maps.AppendAt
import Derived.WalkKit
import Derived.Test.YtmemninechdogaaGreatDoorPt
import Derived.Test.YtmemninechdogaaGreatDoorPl
set_option linter.all false
namespace Go.Tb
open Go.Maps Go.RowKit
open Go.Proofs (encStr)
instance (s:ByteArray)(L:List ByteArray):Decidable (s∈L):=@List.instDecidableMemOfLawfulBEq _ instBEqOfDecidableEq inferInstance s L
def ky(s:ByteArray):Lit:=.string s.data.toList
theorem yf(s:ByteArray):WideAt.IsKeyLit (ky s):=trivial
theorem aar{a b:ByteArray}(h:a.data.toList=b.data.toList):a=b:=by cases a;cases b;simp only[ByteArray.mk.injEq];exact Array.toList_inj.1 h
theorem QZ{a b:ByteArray}(h:ky a=ky b):a=b:=aar (by simpa[ky]using h)
theorem JY{a b:ByteArray}(h:a≠b):ky a≠ky b:=fun e=>h (QZ e)
def dt(w:World)(P:Program)(k:TypeId)(R:Value->Option (DataW Unit×List MemPlace))(b:Nat)(L:List ByteArray)(f:ByteArray->DataW Unit):Prop:=
 L.Nodup/\(∀s∈L,s.size<=maxLen)/\∃D,w.ownsMap P k R b L.length D/\(∀s,s.size<=maxLen->has D (ky s)=decide (s∈L))/\∀s∈L,∀z,D.atKey (ky s) z=f s
def ins(L:List ByteArray)(s:ByteArray):List ByteArray:=if s∈L then L else L++[s]
theorem qm{L:List ByteArray}{s x:ByteArray}:x∈ins L s↔x=s\/x∈L:=by unfold ins;grind
theorem Qh{L:List ByteArray}{s:ByteArray}(h:L.Nodup):(ins L s).Nodup:=by unfold ins;grind
theorem aeR(L:List ByteArray)(s:ByteArray):(ins L s).length<=L.length+1:=by unfold ins;split<;>simp
def eQ(L:List ByteArray)(l:List ByteArray):List ByteArray:=l.foldl ins L
theorem A2{x:ByteArray}:∀{l L:List ByteArray},x∈eQ L l↔x∈l\/x∈L
 |[],L=>by simp[eQ]|s::l,L=>by rw[show eQ L (s::l)=eQ (ins L s) l from rfl,A2 (l:=l),qm,ZR];grind
theorem Qd:∀{l L:List ByteArray},L.Nodup->(eQ L l).Nodup
 |[],L,h=>h|s::l,L,h=>Qd (l:=l) (Qh h)
theorem Eb:∀(l L:List ByteArray),(eQ L l).length<=L.length+l.length
 |[],L=>ZO _|s::l,L=>by have h1:=Eb l (ins L s);have h2:=aeR L s;simp;exact ZD h1 (by omega)
theorem Qc(L a b:List ByteArray):eQ L (a++b)=eQ (eQ L a) b:=List.foldl_append
section
variable {P:Program}{k:TypeId}{R:Value->Option (DataW Unit×List MemPlace)}{w:World}{b:Nat}{L:List ByteArray}{f:ByteArray->DataW Unit}
theorem dt.lt(h:dt w P k R b L f):b<w.heap.size:=let⟨_,_,_,h,_⟩:=h;h.lt
theorem dt.isMap(h:dt w P k R b L f):∃es c,w.heap[b]? =some (.map es c):=by obtain⟨_,_,D,⟨es,c,h,_⟩,_⟩:=h;exact⟨es,c,h⟩
theorem TW(w:World)(P:Program)(k:TypeId)(R:Value->Option (DataW Unit×List MemPlace))(f:ByteArray->DataW Unit):dt (w.alloc (.map #[] 0)) P k R w.heap.size [] f:=
 ⟨List.nodup_nil,(fun s h=>nomatch h),_,World.ownsMap_made w P k R,(fun s _=>by rfl),(fun s h=>nomatch h)⟩
theorem dt.kept{w':World}{row:Option Nat}(h:dt w P k R b L f)(hg:w.grownBy w' row)(aW:some b≠row):dt w' P k R b L f:=by obtain⟨h1,h2,D,h3,h4,h5⟩:=h;exact⟨h1,h2,D,h3.kept hg aW,h4,h5⟩
theorem dt.alloc(h:dt w P k R b L f)(o:Obj):dt (w.alloc o) P k R b L f:=h.kept (World.grownBy_alloc w o none) (by simp)
theorem dt.block{w':World}(h:dt w P k R b L f)(hb:w'.heap[b]? =w.heap[b]?):dt w' P k R b L f:=by obtain⟨h1,h2,D,⟨es,c,h3,h6⟩,h4,h5⟩:=h;exact⟨h1,h2,D,⟨es,c,hb.trans h3,h6⟩,h4,h5⟩
theorem dt.congr{f':ByteArray->DataW Unit}(h:dt w P k R b L f)(hf:∀s∈L,f s=f' s):dt w P k R b L f':=by obtain⟨h1,h2,D,h3,h4,h5⟩:=h;exact⟨h1,h2,D,h3,h4,fun s hs z=>(h5 s hs z).trans (hf s hs)⟩
theorem dt.store{w':World}{s:ByteArray}{D:DataW Unit}{d:DataW Unit}(h1:L.Nodup)(h2:∀s∈L,s.size<=maxLen)(hm:IsMap D)(h4:∀s,s.size<=maxLen->has D (ky s)=decide (s∈L))(h5:∀s∈L,∀z,D.atKey (ky s) z=f s)
  (hs:s.size<=maxLen) (h:w'.ownsMap P k R b (L.length+1) (D.put (ky s) d)) (K:Keyed P k) (hT:Tidy D) (hn:size D<=L.length):dt w' P k R b (ins L s) (fun x=>if x=s then d else f x):=by
 have hz:size (D.put (ky s) d)<=(ins L s).length:=by rw[size_put hT,h4 s hs];unfold ins;grind
 refine⟨Qh h1,fun x hx=>?_,D.put (ky s) d,?_,fun x hx=>?_,fun x hx z=>?_⟩
 .rcases qm.1 hx with rfl|hx
  .exact hs
  grind
 .obtain⟨es,c,a1,a2,a3,a4⟩:=h;refine⟨es,c,a1,a2,?_,a4⟩;have e:size (D.put (ky s) d)=es.size:=by rw[a4,size_eq,length_read]
  omega
 .by_cases e:x=s
  .subst e;rw[has_put_same hm (yf _)];simp[qm]
  .rw[has_put_other (JY e),h4 x hx];simp[qm,e]
 .by_cases e:x=s
  .subst e;rw[atKey_put_same hm (yf _)];grind
  .rw[atKey_put_other (JY e)];rcases qm.1 hx with hx|hx
   .grind
   grind
end
section
variable {P:Program}{k:TypeId}(hk:P.underlying k=some .string)
variable {ops:Array Oper}{rest:List Oper}{o:Oper}{a:Act}{Q:Exit->Act->World->Prop}
theorem UM(w:World)(hg:o.guard=none)(m x v:Operand)(t:TypeId)(ei:o.op=Op.mapUpdate t m x v)(hk:P.underlying k=some .string)(e:TypeId)(ht:P.underlying t=some (.map k e))
  (R:Value->Option (DataW Unit×List MemPlace)) (b:Nat) (L:List ByteArray) (f:ByteArray->DataW Unit) (hm:a.eval m= .map (some b)) (h:dt w P k R b L f) (hn:L.length<maxLen) (s:ByteArray) (hx:a.eval x= .string s) (hs:s.size<=maxLen)
  (val:Value) (hv:a.eval v=val) (d:DataW Unit) (ps:List MemPlace) (hd:R val=some (d,ps))
  (hK:∀w',dt w' P k R b (ins L s) (fun x=>if x=s then d else f x)->w.grownBy w' (some b)->wpList P ops Q rest (a.put o.dst undef) w'):wpList P ops Q (o::rest) a w:=by
 obtain⟨h1,h2,D,h3,h4,h5⟩:=h;refine wpList_mapUpdate_own w hg m x v t ei k e (string_keyed hk) ht R b L.length D hm h3 hn _ val (ky s) hx hv (WideMaps.keyOf_string_mk hk hs) d ps hd fun w' hw lU=>hK w' ?_ lU;exact dt.store h1 h2 h3.isMap h4 h5 hs hw (string_keyed hk) (h3.tidy (string_keyed hk)) h3.size_le
theorem UL(w:World)(hg:o.guard=none)(m x:Operand)(t:TypeId)(ei:o.op=Op.lookup t m x false)(hk:P.underlying k=some .string)(e:TypeId)(ht:P.underlying t=some (.map k e))
  (R:Value->Option (DataW Unit×List MemPlace)) (z:Value) (hz:(zeroValue e).run P w= .ok z w) (zd:DataW Unit) (zp:List MemPlace) (hzd:R z=some (zd,zp))
  (b:Nat) (L:List ByteArray) (f:ByteArray->DataW Unit) (hm:a.eval m= .map (some b)) (h:dt w P k R b L f) (s:ByteArray) (hx:a.eval x= .string s) (hs:s.size<=maxLen)
  (val:Value) (anp:∀v ps,R v=some (if s∈L then f s else zd,ps)->v=val)
  (hK:wpList P ops Q rest (a.put o.dst val) w):wpList P ops Q (o::rest) a w:=by
 obtain⟨h1,h2,D,h3,h4,h5⟩:=h;refine wpList_plain hg fun K' Dp=>?_;obtain⟨v,ps,cY,kI⟩:=h3.lookup (string_keyed hk) ht hz hzd (WideMaps.keyOf_string_mk hk hs);have e1:v=val:=by
  refine anp v ps ?_;rw[kI];by_cases fx:s∈L
  .rw[Z3 fx];exact Zk (fun d=>some (d,ps)) (h5 s fx zd)
  .rw[Z9 fx];have h6:has D (ky s)=false:=by grind
   exact Zk (fun d=>some (d,ps)) (atKey_of_not_has h6 zd)
 subst e1;unfold Oper.wp;have ad9:(Instr.lookup t (Value.map (some b)) (Value.string s) false).run P w= .ok v w:=cY;simp[execOp,ei,hm,hx,ad9,Result.andThen];exact Dp _ _ hK
def fW(w:World)(P:Program)(k:TypeId)(R:Value->Option (DataW Unit×List MemPlace))(b r:Nat)(L:List ByteArray)(f:ByteArray->DataW Unit)(left:ByteArray->Prop)(bG:Nat):Prop:=
 L.Nodup/\(∀s∈L,s.size<=maxLen)/\∃D lf,w.ranges P k R b r L.length D lf bG/\(∀s,s.size<=maxLen->has D (ky s)=decide (s∈L))/\(∀s∈L,∀z,D.atKey (ky s) z=f s)/\∀s,s.size<=maxLen->(lf (ky s)=true↔left s)
theorem fW.dt{w:World}{R:Value->Option (DataW Unit×List MemPlace)}{b r:Nat}{L:List ByteArray}{f:ByteArray->DataW Unit}{left:ByteArray->Prop}{bG:Nat}(h:fW w P k R b r L f left bG):dt w P k R b L f:=by obtain⟨h1,h2,D,lf,h3,h4,h5,_⟩:=h;exact⟨h1,h2,D,h3.owns,h4,h5⟩
theorem fW.left_eq{w:World}{R:Value->Option (DataW Unit×List MemPlace)}{b r:Nat}{L:List ByteArray}{f:ByteArray->DataW Unit}{left:ByteArray->Prop}{bG:Nat}(h:fW w P k R b r L f left bG):w.rangeLeft b r=bG:=by obtain⟨h1,h2,D,lf,h3,_⟩:=h;exact h3.left_eq
theorem fW.kept{w w':World}{R:Value->Option (DataW Unit×List MemPlace)}{b r:Nat}{L:List ByteArray}{f:ByteArray->DataW Unit}{left:ByteArray->Prop}{bG:Nat}{row:Option Nat}(h:fW w P k R b r L f left bG)(hg:w.grownBy w' row)(hb:some b≠row)(hr:some r≠row):fW w' P k R b r L f left bG:=by obtain⟨h1,h2,D,lf,h3,h4,h5,h6⟩:=h;exact⟨h1,h2,D,lf,h3.kept hg hb hr,h4,h5,h6⟩
theorem fW.iter{w:World}{R:Value->Option (DataW Unit×List MemPlace)}{b r:Nat}{L:List ByteArray}{f:ByteArray->DataW Unit}{left:ByteArray->Prop}{bG:Nat}(h:fW w P k R b r L f left bG):∃x y z u,w.heap[r]? =some (.mapIter x y z u):=by obtain⟨h1,h2,D,lf,⟨es,clock,since,seen,c0,_,_,_,_,h3,_⟩,_⟩:=h;grind
theorem ams(w:World)(hg:o.guard=none)(m:Operand)(t:TypeId)(ei:o.op=Op.range t m)(hk:P.underlying k=some .string)(e:TypeId)(ht:P.underlying t=some (.map k e))
  (R:Value->Option (DataW Unit×List MemPlace)) (b:Nat) (L:List ByteArray) (f:ByteArray->DataW Unit) (hm:a.eval m= .map (some b)) (h:dt w P k R b L f)
  (hK:∀w' bG,fW w' P k R b w.heap.size L f (·∈L) bG->w.grownBy w' none->w'.heap.size=w.heap.size+1->wpList P ops Q rest (a.put o.dst (.pointer (some ⟨w.heap.size,0,none⟩))) w'):wpList P ops Q (o::rest) a w:=by
 obtain⟨h1,h2,D,h3,h4,h5⟩:=h;exact wpList_range_own w hg m t ei k e (string_keyed hk) ht R b L.length D hm h3 fun w' hr lU bl=>hK w' _ ⟨h1,h2,D,_,hr,h4,h5,fun s hs=>by grind⟩ lU bl
theorem amq(w:World)(hg:o.guard=none)(it:Operand)(ei:o.op=Op.next it false)(hk:P.underlying k=some .string)(R:Value->Option (DataW Unit×List MemPlace))(Et:ByteArray->Value)
  (b r:Nat) (L:List ByteArray) (f:ByteArray->DataW Unit) (aeT:∀s∈L,∀v ps,R v=some (f s,ps)->v=Et s) (left:ByteArray->Prop) (bG:Nat)
  (hit:a.eval it= .pointer (some ⟨r,0,none⟩)) (h:fW w P k R b r L f left bG)
  (ads:(∀s,s.size<=maxLen->¬left s)->wpList P ops Q rest (a.put o.dst (.tuple #[.bool false])) w)
  (adz:∀(s:ByteArray) (w':World) (ja:Nat),s∈L->left s->fW w' P k R b r L f (fun x=>left x/\x≠s) ja->ja<bG->w.grownBy w' (some r)->w'.heap.size=w.heap.size->
   (Instr.entry (.pointer (some ⟨r,0,none⟩))).run P w'= .ok (.tuple #[.string s,Et s]) w'->wpList P ops Q rest (a.put o.dst (.tuple #[.bool true,.string s,Et s])) w'):
  wpList P ops Q (o::rest) a w:=by
 obtain⟨h1,h2,D,lf,h3,h4,h5,h6⟩:=h;refine wpList_plain hg fun K' Dp=>?_;unfold Oper.wp;rcases h3.next (string_keyed hk) o.type with⟨h0,hl,cY⟩|⟨key,v,kl,y,w',ja,Ax,Az,hv,kI,cY,vR,az,lU,bl,vC⟩
 .simp[execOp,ei,hit,cY,Result.andThen];exact Dp _ _ (ads fun s hs fw=>by grind)
 .obtain⟨x,rfl,rfl,hx⟩:=Maps.keyOf_str hk Ax;obtain⟨s,hs⟩:∃s:ByteArray,s.data.toList=x:=⟨⟨x.toArray⟩,by simp⟩
  subst hs;have qg:s.size<=maxLen:=by simp_all
  have fx:s∈L:=by have e1:has D (ky s)=true:=has_true_of_atKey kI;grind
  have anp:v=Et s:=by refine aeT s fx v y.2 ?_;rw[hv,<-h5 s fx (f s)];exact Zk some (Prod.ext (kI (f s)).symm rfl)
  have IW:encStr s.data.toList= .string s:=by grind
  rw[IW]at cY vC;subst anp;simp[execOp,ei,hit,cY,Result.andThen];refine Dp _ _ (adz s w' ja fx ((h6 s qg).1 Az) ⟨h1,h2,D,_,vR,h4,h5,fun x tR=>?_⟩ az lU bl vC);rw[Z6,h6 x tR];refine and_congr_right fun _=>?_;by_cases e:x=s
  .subst e;have e2:=WideAt.sameKey_self (yf x);have e3:(ky x).sameKey (Lit.string x.data.toList)=true:=e2;simp[e3]
  .have e2:=sameKey_ne (JY e);have e3:(ky x).sameKey (Lit.string s.data.toList)=false:=e2;simp[e3,e]
end
abbrev tt:DataW Unit:=.lit (.bool true)
def set(w:World)(P:Program)(k e:TypeId)(b:Nat)(L:List ByteArray):Prop:=dt w P k (plainElem P e) b L fun _=>tt
theorem ME{P:Program}{e:TypeId}(he:P.underlying e=some .bool){v:Value}{c:Bool}{ps:List MemPlace}(h:plainElem (H:=Unit) P e v=some (.lit (.bool c),ps)):v= .bool c:=by unfold plainElem at h;grind
section
variable {P:Program}{k e:TypeId}{ops:Array Oper}{rest:List Oper}{o:Oper}{a:Act}{Q:Exit->Act->World->Prop}
theorem E7(w:World)(P:Program)(k e:TypeId):set (w.alloc (.map #[] 0)) P k e w.heap.size []:=TW w P k _ _
theorem LK(w:World)(hg:o.guard=none)(m x v:Operand)(t:TypeId)(ei:o.op=Op.mapUpdate t m x v)(hk:P.underlying k=some .string)(he:P.underlying e=some .bool)(ht:P.underlying t=some (.map k e))
  (b:Nat) (L:List ByteArray) (hm:a.eval m= .map (some b)) (h:set w P k e b L) (hn:L.length<maxLen) (s:ByteArray) (hx:a.eval x= .string s) (hs:s.size<=maxLen) (hv:a.eval v= .bool true)
  (hK:∀w',set w' P k e b (ins L s)->w.grownBy w' (some b)->wpList P ops Q rest (a.put o.dst undef) w'):wpList P ops Q (o::rest) a w:=
 UM w hg m x v t ei hk e ht _ b L _ hm h hn s hx hs _ hv tt [] (plainElem_bool he true) fun w' hw lU=>hK w' (hw.congr fun x _=>by grind) lU
theorem FU(w:World)(hg:o.guard=none)(m x:Operand)(t:TypeId)(ei:o.op=Op.lookup t m x false)(hk:P.underlying k=some .string)(he:P.underlying e=some .bool)(ht:P.underlying t=some (.map k e))
  (hz:(zeroValue e).run P w= .ok (.bool false) w) (b:Nat) (L:List ByteArray) (hm:a.eval m= .map (some b)) (h:set w P k e b L) (s:ByteArray) (hx:a.eval x= .string s) (hs:s.size<=maxLen)
  (hK:wpList P ops Q rest (a.put o.dst (.bool (decide (s∈L)))) w):wpList P ops Q (o::rest) a w:=
 UL w hg m x t ei hk e ht _ (.bool false) hz (.lit (.bool false)) [] (plainElem_bool he false) b L _ hm h s hx hs (.bool (decide (s∈L))) (fun v ps hv=>by
  by_cases fx:s∈L
  .rw[Z3 fx]at hv;rw[ME he hv];grind
  .rw[Z9 fx]at hv;rw[ME he hv];grind) hK
end
def mapElem:Value->Option (DataW Unit×List MemPlace)
 |.map (some b)=>some (.lit (.int .i64 b),[])|.map none=>some (.nil,[])|_=>none
theorem Rp{v:Value}{n:Nat}{ps:List MemPlace}(h:mapElem v=some (.lit (.int .i64 n),ps)):v= .map (some n):=by
 unfold mapElem at h;split at h
 .grind
 .grind
 grind
theorem ahD{v:Value}{ps:List MemPlace}(h:mapElem v=some (.nil,ps)):v= .map none:=by
 unfold mapElem at h;split at h
 .simp at h
 .rfl
 .cases h
def maps(w:World)(P:Program)(k:TypeId)(b:Nat)(L:List ByteArray)(at_:ByteArray->Nat):Prop:=dt w P k mapElem b L fun s=>.lit (.int .i64 (at_ s))
section
variable {P:Program}{k e:TypeId}{ops:Array Oper}{rest:List Oper}{o:Oper}{a:Act}{Q:Exit->Act->World->Prop}
theorem BT(w:World)(hg:o.guard=none)(m x:Operand)(t:TypeId)(ei:o.op=Op.lookup t m x false)(hk:P.underlying k=some .string)(ht:P.underlying t=some (.map k e))
  (hz:(zeroValue e).run P w= .ok (.map none) w) (b:Nat) (L:List ByteArray) (at_:ByteArray->Nat) (hm:a.eval m= .map (some b)) (h:maps w P k b L at_) (s:ByteArray) (hx:a.eval x= .string s) (hs:s.size<=maxLen)
  (hK:wpList P ops Q rest (a.put o.dst (.map (if s∈L then some (at_ s)else none))) w):wpList P ops Q (o::rest) a w:=
 UL w hg m x t ei hk e ht _ (.map none) hz .nil [] rfl b L _ hm h s hx hs _ (fun v ps hv=>by
  by_cases fx:s∈L
  .rw[Z3 fx]at hv|-;exact Rp hv
  .rw[Z9 fx]at hv|-;exact ahD hv) hK
theorem amr(w:World)(hg:o.guard=none)(m x v:Operand)(t:TypeId)(ei:o.op=Op.mapUpdate t m x v)(hk:P.underlying k=some .string)(ht:P.underlying t=some (.map k e))
  (b:Nat) (L:List ByteArray) (at_:ByteArray->Nat) (hm:a.eval m= .map (some b)) (h:maps w P k b L at_) (hn:L.length<maxLen) (s:ByteArray) (hx:a.eval x= .string s) (hs:s.size<=maxLen) (n:Nat) (hv:a.eval v= .map (some n))
  (hK:∀w',maps w' P k b (ins L s) (fun x=>if x=s then n else at_ x)->w.grownBy w' (some b)->wpList P ops Q rest (a.put o.dst undef) w'):wpList P ops Q (o::rest) a w:=
 UM w hg m x v t ei hk e ht _ b L _ hm h hn s hx hs _ hv (.lit (.int .i64 n)) [] rfl fun w' hw lU=>hK w' (hw.congr fun x _=>by grind) lU
end
end Go.Tb
set_option maxRecDepth 100000
namespace Go.Proofs.YtmemninechdogaaGreatDoor
open Go.Sx Go.Proofs
structure ay where
 tables:List aO
 features:List aj
 aD:List aj
 past:List aj
deriving Inhabited
def ay.cells(c:ay):List AV:=[.sl false 4 (c.tables.map aO.cells),.sl false 18 (c.features.map aj.cells),.sl false 18 (c.aD.map aj.cells),.sl false 18 (c.past.map aj.cells)]
def c6(a b:ae):Bool:=Op.bytesLess a.toList b.toList
theorem MH:∀(x y:List UInt8),Op.bytesLess x y=decide (x<y)
 |[],[]=>by rfl|_::_,[]=>by rfl|[],_::_=>by rfl|a::x,b::y=>by rw[Op.bytesLess,MH x y];simp only[List.cons_lt_cons_iff];grind
theorem toList_data(a:ae):a.toList=a.data.toList:=ByteArray.toList_eq a
theorem E3(a b:ae):c6 a b=true↔a.data.toList<b.data.toList:=by unfold c6;rw[MH,toList_data,toList_data,ZQ]
theorem qy(a:ae):c6 a a=false:=by rw[<-X8,E3];exact List.lt_irrefl _
theorem E4{a b c:ae}(h:c6 a b=true)(k:c6 b c=true):c6 a c=true:=by rw[E3]at*;exact List.lt_trans h k
theorem KR{a b:ae}(h:c6 a b=false)(k:c6 b a=false):a=b:=by rw[<-X8,E3]at h k;exact Fg (List.le_antisymm (List.not_lt.1 k) (List.not_lt.1 h))
theorem E2{a b:ae}(h:c6 a b=true):c6 b a=false:=by rw[<-X8];intro k;have:=E4 h k;rw[qy]at this;cases this
def bI(l:List ae):Prop:=l.Pairwise fun a b=>c6 a b=true
def dm:List ae->ae->List ae
 |[],s=>[s]
 |a::l,s=>if c6 a s=true then a::dm l s else if a=s then a::l else s::a::l
theorem wy{s x:ae}:∀{l:List ae},x∈dm l s↔x=s\/x∈l
 |[]=>by simp[dm]|a::l=>by have ih:=wy (s:=s) (x:=x) (l:=l);unfold dm;grind
theorem yw{s:ae}:∀{l:List ae},bI l->bI (dm l s)
 |[],_=>by simp[dm,bI]|a::l,h=>by
  have h1:=X2.1 h;unfold dm;split
  .refine X2.2 ⟨fun x hx=>?_,yw h1.2⟩;rcases wy.1 hx with rfl|hx
   .grind
   grind
  .split
   .exact h
   .rename_i h2 h3;have h4:c6 s a=true:=by
     by_cases e:c6 s a=true
     .exact e
     .exact absurd (KR (by grind) (by grind)) h3
    refine X2.2 ⟨fun x hx=>?_,h⟩;rcases ZR.1 hx with rfl|hx
    .exact h4
    .exact E4 h4 (h1.1 x hx)
theorem qA:∀{a b:List ae},bI a->bI b->(∀x,x∈a↔x∈b)->a=b
 |[],[],_,_,_=>rfl|[],y::b,_,_,h=>absurd ((h y).2 (by simp)) (by simp)|x::a,[],_,_,h=>absurd ((h x).1 (by simp)) (by simp)|x::a,y::b,ha,hb,h=>by
  have h1:=X2.1 ha;have h2:=X2.1 hb;have e:x=y:=by
   rcases ZR.1 ((h x).1 (by simp))with e|hx
   .exact e
   .rcases ZR.1 ((h y).2 (by simp))with e|hy
    .grind
    .have k1:=h2.1 x hx;have k2:=h1.1 y hy;rw[E2 k1]at k2;grind
  subst e;rw[qA h1.2 h2.2 fun z=>?_];have n1:x∉a:=fun hm=>by have:=h1.1 x hm;rw[qy]at this;grind
  have n2:x∉b:=fun hm=>by have:=h2.1 x hm;rw[qy]at this;grind
  grind
def putAt:List ae->ae->Nat
 |[],_=>0|a::l,s=>if c6 a s=true then putAt l s+1 else 0
theorem Bp:∀(l:List ae) (s:ae),dm l s=if putAt l s<l.length/\l.getD (putAt l s) default=s then l else l.take (putAt l s)++[s]++l.drop (putAt l s)
 |[],s=>by rfl|a::l,s=>by unfold dm putAt;have ih:=Bp l s;grind
mutual
def gA:Ex->List ae×List ae->List ae×List ae
 |.mk k o n t v u p w ks,a=>eO ks (if k=3\/k=4 then(dm a.1 n,a.2)else if k=5 then(a.1,dm a.2 t)else a)
def eO:List Ex->List ae×List ae->List ae×List ae
 |[],a=>a|x::l,a=>eO l (gA x a)
end
mutual
def Ex.bH:Ex->List ae
 |.mk k o n t v u p w ks=>(if k=3\/k=4 then[n]else[])++Ex.cX ks
def Ex.cX:List Ex->List ae
 |[]=>[]
 |x::l=>x.bH++Ex.cX l
end
mutual
def Ex.dz:Ex->List ae
 |.mk k o n t v u p w ks=>(if k=5 then[t]else[])++Ex.bE ks
def Ex.bE:List Ex->List ae
 |[]=>[]
 |x::l=>x.dz++Ex.bE l
end
mutual
theorem CX:∀(x:Ex) (a:List ae×List ae),(∀s,s∈(gA x a).1↔s∈x.bH\/s∈a.1)/\(∀s,s∈(gA x a).2↔s∈x.dz\/s∈a.2)
 |.mk k o n t v u p w ks,a=>by
  have ih:=Nl ks (if k=3\/k=4 then(dm a.1 n,a.2)else if k=5 then(a.1,dm a.2 t)else a);rw[gA,Ex.bH,Ex.dz];refine⟨fun s=>?_,fun s=>?_⟩
  .rw[ih.1 s,ZI];by_cases h:k=3\/k=4
   .simp only[Z3 h,wy,Zd];grind
   .by_cases h5:k=5
    .simp only[Z9 h,Z3 h5];simp
    .simp only[Z9 h,Z9 h5];simp
  .rw[ih.2 s,ZI];by_cases h:k=3\/k=4
   .have h5:¬k=5:=by omega
    simp only[Z3 h,Z9 h5];simp
   .by_cases h5:k=5
    .simp only[Z9 h,Z3 h5,wy,Zd];grind
    .simp only[Z9 h,Z9 h5];simp
theorem Nl:∀(l:List Ex) (a:List ae×List ae),(∀s,s∈(eO l a).1↔s∈Ex.cX l\/s∈a.1)/\(∀s,s∈(eO l a).2↔s∈Ex.bE l\/s∈a.2)
 |[],a=>by simp[eO,Ex.cX,Ex.bE]|x::l,a=>by
  have h1:=CX x a;have h2:=Nl l (gA x a);rw[eO,Ex.cX,Ex.bE];refine⟨fun s=>?_,fun s=>?_⟩
  .rw[h2.1 s,h1.1 s,ZI];grind
  .rw[h2.2 s,h1.2 s,ZI];grind
end
mutual
theorem CY:∀(x:Ex) (a:List ae×List ae),bI a.1->bI a.2->bI (gA x a).1/\bI (gA x a).2
 |.mk k o n t v u p w ks,a,h1,h2=>by
  rw[gA];refine Nn ks _ ?_ ?_
  .split
   .exact yw h1
   .split<;>exact h1
  .split
   .exact h2
   .split
    .exact yw h2
    .exact h2
theorem Nn:∀(l:List Ex) (a:List ae×List ae),bI a.1->bI a.2->bI (eO l a).1/\bI (eO l a).2
 |[],a,h1,h2=>by rw[eO];exact⟨h1,h2⟩|x::l,a,h1,h2=>by rw[eO];have h:=CY x a h1 h2;exact Nn l _ h.1 h.2
end
def findF(l:List aj)(n:ae):Option aj:=l.find? fun f=>decide (f.name=n)
theorem Hy{l:List aj}{n:ae}{f:aj}(h:findF l n=some f):f∈l/\f.name=n:=by unfold findF at h;grind
inductive Reach(fs:List aj)(s:List ae):ae->Prop
 |base {n:ae} (h:n∈s):Reach fs s n
 |step {n m:ae} {f:aj} (h:Reach fs s n) (hf:findF fs n=some f) (hm:m∈f.body.bH):Reach fs s m
def zi(fs:List aj)(s t:List ae)(x:ae):Prop:=x∈t\/∃n f,Reach fs s n/\findF fs n=some f/\x∈f.body.dz
def sH(fs:List aj)(F T:List ae):Prop:=∀n∈F,∀f,findF fs n=some f->(∀m∈f.body.bH,m∈F)/\∀x∈f.body.dz,x∈T
theorem SS{fs:List aj}{s t F T:List ae}(h1:∀n∈s,n∈F)(h2:∀x∈t,x∈T)(h3:∀n∈F,Reach fs s n)(h4:∀x∈T,zi fs s t x)(hc:sH fs F T):
  (∀n,n∈F↔Reach fs s n)/\∀x,x∈T↔zi fs s t x:=by
 have hF:∀n,Reach fs s n->n∈F:=fun n h=>by
  induction h with
  |base h=>grind|step _ hf hm ih=>exact(hc _ ih _ hf).1 _ hm
 refine⟨fun n=>⟨h3 n,hF n⟩,fun x=>⟨h4 x,fun h=>?_⟩⟩;rcases h with h|⟨n,f,hn,hf,hx⟩
 .grind
 .exact(hc n (hF n hn) f hf).2 x hx
open Classical in
noncomputable def Fb(p:ae->Prop):List ae:=if h:∃l,bI l/\∀x,x∈l↔p x then h.choose else[]
theorem Fc{p:ae->Prop}{l:List ae}(h1:bI l)(h2:∀x,x∈l↔p x):Fb p=l:=by
 have h:∃l,bI l/\∀x,x∈l↔p x:=⟨l,h1,h2⟩
 unfold Fb;rw[dif_pos h];exact qA h.choose_spec.1 h1 fun x=>(h.choose_spec.2 x).trans (h2 x).symm
noncomputable def Uc(fs:List aj)(x:Ex):List ae:=Fb (Reach fs x.bH)
noncomputable def Ud(fs:List aj)(x:Ex):List ae:=Fb (zi fs x.bH x.dz)
theorem Fe{l:List ae}(h:bI l):l.Nodup:=h.imp fun {a b} xX e=>by rw[e,qy]at xX;cases xX
theorem jh{Z:Type}[DecidableEq Z]:∀{a b:List Z},a.Nodup->(∀x∈a,x∈b)->a.length<=b.length
 |[],_,_,_=>Z4 _|x::a,b,h,hs=>by have h1:=YQ.1 h;have h2:=jh (b:=b.erase x) h1.2 fun y hy=>(List.mem_erase_of_ne (fun e=>h1.1 (by grind))).2 (hs y (by simp[hy]));grind
theorem aie{Z:Type}[DecidableEq Z]{a b:List Z}(h:a.Nodup)(hs:∀x∈a,x∈b)(hl:b.length<=a.length):∀x∈b,x∈a:=fun x hx=>by
 by_cases hm:x∈a
 .exact hm
 .have h2:=jh (a:=x::a) (b:=b) (YQ.2 ⟨hm,h⟩) fun y hy=>by grind
  grind
theorem ala{a b:List ae}(ha:bI a)(hb:bI b)(hs:∀x∈a,x∈b)(hl:b.length<=a.length):a=b:=
 qA ha hb fun x=>⟨hs x,aie (Fe ha) hs hl x⟩
def univ(fs:List aj)(s:List ae):List ae:=s++fs.flatMap fun f=>f.body.bH
theorem ai8{fs:List aj}{s:List ae}{n:ae}(h:Reach fs s n):n∈univ fs s:=by
 cases h with
 |base h=>exact Zy _ h|step _ hf hm=>exact Y3 _ (List.mem_flatMap.2 ⟨_,(Hy hf).1,hm⟩)
end Go.Proofs.YtmemninechdogaaGreatDoor
namespace Go.Proofs.YtmemninechdogaaGreatDoor
open Go.Sx Go.Proofs Go.Tb
inductive eX(g:ae->List ae):Nat->ae->ae->Prop
 |one {a b:ae} (h:b∈g a):eX g 1 a b
 |cons {k:Nat} {a b c:ae} (h:b∈g a) (t:eX g k b c):eX g (k+1) a c
theorem eX.trans{g:ae->List ae}{k l:Nat}{a b c:ae}(h:eX g k a b)(t:eX g l b c):eX g (k+l) a c:=by
 induction h with
 |one h=>rw[Nat.add_comm];exact .cons h t|cons h _ ih=>rw[Nat.add_right_comm];exact .cons h (ih t)
theorem eX.pos{g:ae->List ae}{k:Nat}{a b:ae}(h:eX g k a b):1<=k:=by cases h<;>omega
def dw(g:ae->List ae):ae->List ae->Prop
 |_,[]=>True|a,b::l=>b∈g a/\dw g b l
def br:ae->List ae->ae
 |a,[]=>a|_,b::l=>br b l
theorem yk:∀(a:ae) (l:List ae) (b:ae),br a (l++[b])=b
 |_,[],_=>rfl|_,x::l,b=>yk x l b
theorem dw.snoc{g:ae->List ae}:∀{a:ae} {l:List ae} {b:ae},dw g a l->b∈g (br a l)->dw g a (l++[b])
 |_,[],_,_,h=>⟨h,trivial⟩
 |_,_::_,_,h,hb=>⟨h.1,dw.snoc h.2 hb⟩
theorem dw.app{g:ae->List ae}:∀{a:ae} {l m:List ae},dw g a l->dw g (br a l) m->dw g a (l++m)
 |_,[],_,_,h=>h|_,_::_,_,h,hb=>⟨h.1,dw.app h.2 hb⟩
theorem Bc:∀(a:ae) (l m:List ae),br a (l++m)=br (br a l) m
 |_,[],_=>rfl|_,x::l,m=>Bc x l m
theorem dw.left{g:ae->List ae}:∀{a:ae} {l m:List ae},dw g a (l++m)->dw g a l
 |_,[],_,_=>trivial|_,_::_,_,h=>⟨h.1,dw.left h.2⟩
theorem dw.right{g:ae->List ae}:∀{a:ae} {l m:List ae},dw g a (l++m)->dw g (br a l) m
 |_,[],_,h=>h|_,_::l,_,h=>dw.right (l:=l) h.2
def fG(g:ae->List ae)(a:ae)(l:List ae):Prop:=dw g a l/\a∈g (br a l)
theorem dw.wK{g:ae->List ae}{c:ae}:∀{a:ae} {l:List ae},dw g a l->c∈g (br a l)->eX g (l.length+1) a c
 |_,[],_,h=>.one h|_,_::_,h,hc=>.cons h.1 (dw.wK h.2 hc)
theorem eX.Sv{g:ae->List ae}{k:Nat}{a c:ae}(h:eX g k a c):∃l,dw g a l/\c∈g (br a l)/\l.length+1=k:=by
 induction h with
 |one h=>exact⟨[],trivial,h,rfl⟩|cons h _ ih=>obtain⟨l,h1,h2,h3⟩:=ih;exact⟨_::l,⟨h,h1⟩,h2,by grind⟩
def lx:List ae->List ae->Prop
 |a::l,b::m=>c6 a b=true\/a=b/\lx l m|_,_=>False
theorem Er:∀{l m n:List ae},lx l m->lx m n->lx l n
 |_::_,_::_,_::_,h,k=>by
  rcases h with h|⟨rfl,h⟩<;>rcases k with k|⟨rfl,k⟩
  .exact .inl (E4 h k)
  .exact .inl h
  .exact .inl k
  .exact .inr ⟨rfl,Er h k⟩
 |[],_,_,h,_=>by cases h|_::_,[],_,h,_=>by cases h|_::_,_::_,[],_,k=>by cases k
theorem Rn:∀{l:List ae},¬lx l l
 |[],h=>h|a::l,h=>by
  rcases h with h|⟨_,h⟩
  .rw[qy]at h;cases h
  .exact Rn h
theorem Ep:∀{l m:List ae} {b c:ae},l.length=m.length->lx l m->lx (l++[b]) (m++[c])
 |_::_,_::_,_,_,hl,h=>by
  rcases h with h|⟨rfl,h⟩
  .exact .inl h
  .exact .inr ⟨rfl,Ep (by grind) h⟩
 |[],_,_,_,_,h=>by cases h|_::_,[],_,_,_,h=>by cases h
theorem Ro:∀{l:List ae} {b c:ae},c6 b c=true->lx (l++[b]) (l++[c])
 |[],_,_,h=>.inl h|_::_,_,_,h=>.inr ⟨rfl,Ro h⟩
structure np(g:ae->List ae)(a:ae)(l:List ae):Prop where
 c:fG g a l
 s:∀m,fG g a m->l.length<=m.length
 m:∀m,fG g a m->m.length=l.length->m=l\/lx l m
theorem np.uniq{g:ae->List ae}{a:ae}{l m:List ae}(h:np g a l)(k:np g a m):l=m:=by
 have h1:=h.s _ k.c;have h2:=k.s _ h.c;rcases h.m _ k.c (by omega)with e|e
 .grind
 .rcases k.m _ h.c (by omega)with e'|e'
  .exact e'
  .exact absurd (Er e e') Rn
def ext1(p:List ae):List ae->List (List ae)×List ae->List (List ae)×List ae
 |[],s=>s|n::l,s=>ext1 p l (if n∈s.2 then s else(s.1++[p++[n]],s.2++[n]))
def ju(g:ae->List ae)(a:ae):List (List ae)->List (List ae)×List ae->List (List ae)×List ae
 |[],s=>s|p::l,s=>ju g a l (ext1 p (g (br a p)) s)
theorem Hl(p:List ae)(n:ae):∀(l:List ae) (s:List (List ae)×List ae),ext1 p (l++[n]) s=if n∈(ext1 p l s).2 then ext1 p l s else((ext1 p l s).1++[p++[n]],(ext1 p l s).2++[n])
 |[],s=>rfl|x::l,s=>Hl p n l _
theorem Hm(g:ae->List ae)(a:ae)(p:List ae):∀(l:List (List ae)) (s:List (List ae)×List ae),ju g a (l++[p]) s=ext1 p (g (br a p)) (ju g a l s)
 |[],s=>rfl|x::l,s=>Hm g a p l _
structure mw(g:ae->List ae)(a:ae)(k:Nat)(D:List (List ae))(T:List ae)(s:List (List ae)×List ae):Prop where
 p:∀q∈s.1,∃r∈D,∃n,q=r++[n]/\n∈g (br a r)
 n:∀x,x∈s.2↔x∈T\/∃q∈s.1,br a q=x
 d:s.2.Nodup
 o:s.1.Pairwise lx
 l:s.2.length=T.length+s.1.length
theorem mw.start{g:ae->List ae}{a:ae}{k:Nat}{T:List ae}(h:T.Nodup):mw g a k [] T ([],T):=
 ⟨fun q hq=>(by cases hq),fun x=>⟨.inl,fun h=>by grind⟩,h,.nil,by simp⟩
theorem mw.wider{g:ae->List ae}{a:ae}{k:Nat}{D D':List (List ae)}{T:List ae}{s:List (List ae)×List ae}(h:mw g a k D T s)(hD:∀r∈D,r∈D'):mw g a k D' T s:=
 ⟨fun q hq=>by obtain⟨r,hr,n,h1⟩:=h.p q hq;grind,h.n,h.d,h.o,h.l⟩
theorem mw.ext1{g:ae->List ae}{a:ae}{k:Nat}{D:List (List ae)}{T:List ae}{p:List ae}(hp:p∈D)(hlen:∀r∈D,r.length=k)(DM:∀r∈D,r=p\/lx r p):
  ∀(l:List ae) (s:List (List ae)×List ae),mw g a k D T s->(∀n∈l,n∈g (br a p))->bI l->(∀q∈s.1,∀n∈l,lx q (p++[n]))->mw g a k D T (Go.Proofs.YtmemninechdogaaGreatDoor.ext1 p l s)
 |[],s,h,_,_,_=>h|n::l,s,h,hg,hs,hq=>by
  have lW:=X2.1 hs;rw[Go.Proofs.YtmemninechdogaaGreatDoor.ext1];by_cases hm:n∈s.2
  .rw[Z3 hm];exact mw.ext1 hp hlen DM l s h (fun x hx=>hg x (by simp[hx])) lW.2 fun q oV x hx=>hq q oV x (by simp[hx])
  .rw[Z9 hm];refine mw.ext1 hp hlen DM l _ ⟨fun q oV=>?_,fun x=>?_,?_,?_,by have:=h.l;grind⟩ (fun x hx=>hg x (by simp[hx])) lW.2 ?_
   .rcases ZI.1 oV with h1|h1
    .exact h.p q h1
    grind
   .have:=h.n x;simp only[ZI,Zd];rw[this];constructor
    .rintro((h1|⟨q,h1,h2⟩)|rfl)
     .grind
     .grind
     .exact .inr ⟨_,.inr rfl,yk _ _ _⟩
    .rintro(h1|⟨q,h1|rfl,h2⟩)
     .grind
     .grind
     .rw[yk]at h2;grind
   .exact Xz.2 ⟨h.d,by simp,fun x hx y hy e=>by rw[Zd]at hy;subst hy;subst e;exact hm hx⟩
   .refine Xv.2 ⟨h.o,by simp,fun q oV y hy=>?_⟩;rw[Zd]at hy;subst hy;exact hq q oV n (by simp)
   .intro q oV x hx;rcases ZI.1 oV with h1|h1
    .exact hq q h1 x (by simp[hx])
    .rw[Zd]at h1;subst h1;exact Ro (lW.1 x hx)
theorem Hk{p:List ae}:∀(l:List ae) (s:List (List ae)×List ae) (x:ae),x∈s.2\/x∈l->x∈(ext1 p l s).2
 |[],s,x,h=>by
  rcases h with h|h
  .exact h
  grind
 |n::l,s,x,h=>by refine Hk l _ x ?_;grind
theorem NL{p:List ae}:∀(l:List ae) (s:List (List ae)×List ae) (q:List ae),q∈s.1->q∈(ext1 p l s).1
 |[],s,q,h=>h|n::l,s,q,h=>by refine NL l _ q ?_;grind
structure jn(g:ae->List ae)(a:ae)(k:Nat)(P:List (List ae))(S:List ae):Prop where
 p:∀q∈P,dw g a q/\q.length=k
 o:P.Pairwise lx
 d:S.Nodup
 r:∀x∈S,∃q,dw g a q/\br a q=x/\q.length<=k
 no:∀q,fG g a q->k<=q.length
 c:∀q,dw g a q->q.length=k->∃r,dw g a r/\br a r=br a q/\(r.length<k\/r∈P/\(r=q\/lx r q))
 z:P≠[]->k<=S.length
theorem jn.start(g:ae->List ae)(a:ae):jn g a 0 [[]] []:=
 ⟨fun q hq=>by rw[Zd]at hq;subst hq;exact⟨trivial,rfl⟩,by simp,.nil,fun x hx=>(by cases hx),fun _ _=>Z4 _,
  fun q hq hl=>⟨[],trivial,by grind,.inr ⟨by simp,.inl (Zt hl).symm⟩⟩,fun _=>Z4 _⟩
theorem jn.found{g:ae->List ae}{a:ae}{k:Nat}{P:List (List ae)}{S:List ae}(h:jn g a k P S){i:Nat}{p:List ae}(hi:P[i]? =some p)(hc:a∈g (br a p))(hn:∀j,j<i->∀q,P[j]? =some q->a∉g (br a q)):np g a p:=by
 obtain⟨cJ,rfl⟩:=ZG.1 hi;obtain⟨h1,h2⟩:=h.p _ (Zb cJ);refine⟨⟨h1,hc⟩,fun m hm=>by rw[h2];exact h.no m hm,fun m hm hl=>?_⟩;obtain⟨r,hr,e,dV⟩:=h.c m hm.1 (hl.trans h2);have vB:fG g a r:=⟨hr,by rw[e];exact hm.2⟩
 rcases dV with dV|⟨dV,kQ⟩
 .have:=h.no r vB;omega
 .obtain⟨j,hj,rfl⟩:=Zc dV;have gH:i<=j:=by
   rcases YN j i with az|vG
   .exact absurd vB.2 (hn j az _ (ZX hj))
   grind
  rcases Xj gH with rfl|az
  .grind
  .have:=Yo.1 h.o i j cJ hj az;rcases kQ with e'|e'
   .grind
   .exact .inr (Er this e')
theorem NN{g:ae->List ae}(hg:∀n,bI (g n)){a:ae}{k:Nat}{T:List ae}(hT:T.Nodup):∀(P:List (List ae)),(∀q∈P,q.length=k)->P.Pairwise lx->
  mw g a k P T (ju g a P ([],T)):=by
 intro P
 induction hP:P.length generalizing P with
 |zero=>intro _ _;rw[Zt hP];exact mw.start hT|succ n ih=>
  intro hl ho;obtain⟨Q,p,rfl⟩:∃Q p,P=Q++[p]:=⟨P.dropLast,P.getLast (by grind),(List.dropLast_concat_getLast _).symm⟩
  have yb:=Xv.1 ho;have h:=ih Q (by grind) (fun q hq=>hl q (Zy _ hq)) yb.1;rw[Hm];have DM:∀r∈Q++[p],r=p\/lx r p:=fun r hr=>by grind
  refine mw.ext1 (D:=Q++[p]) (by simp) hl DM _ _ (h.wider fun r hr=>Zy _ hr) (fun n hn=>hn) (hg _) fun q hq n hn=>?_;obtain⟨r,hr,m,rfl,_⟩:=h.p q hq;have h1:=hl r (Zy _ hr);have h2:=hl p (by simp);exact Ep (by omega) (yb.2.2 r hr p (by simp))
theorem aci{g:ae->List ae}{a:ae}:∀(P Q:List (List ae)) (p:List ae) (n:ae) (s:List (List ae)×List ae),n∈g (br a p)->n∈(ju g a (P++p::Q) s).2:=by
 have aH:∀(Q:List (List ae)) (s:List (List ae)×List ae) (n:ae),n∈s.2->n∈(ju g a Q s).2:=by
  intro Q
  induction Q with
  |nil=>intro s n h;exact h|cons q Q ih=>intro s n h;exact ih _ _ (Hk _ _ _ (.inl h))
 intro P
 induction P with
 |nil=>intro Q p n s h;exact aH Q (ext1 p (g (br a p)) s) n (Hk _ _ _ (.inr h))|cons q P ih=>intro Q p n s h;exact ih Q p n _ h
theorem NM(g:ae->List ae)(a:ae):∀(P Q:List (List ae)) (s:List (List ae)×List ae),ju g a (P++Q) s=ju g a Q (ju g a P s)
 |[],_,_=>rfl|_::P,Q,_=>NM g a P Q _
theorem NP{g:ae->List ae}{a:ae}:∀(Q:List (List ae)) (s:List (List ae)×List ae) (q:List ae),q∈s.1->q∈(ju g a Q s).1
 |[],_,_,h=>h|_::Q,s,q,h=>NP Q _ q (NL _ _ q h)
theorem acj{g:ae->List ae}(hg:∀n,bI (g n)){a:ae}{k:Nat}{T:List ae}(hT:T.Nodup){P:List (List ae)}(hl:∀q∈P,q.length=k)(ho:P.Pairwise lx){r:List ae}(hr:r∈P){n:ae}(hn:n∈g (br a r)):
  n∈T\/∃q∈(ju g a P ([],T)).1,br a q=n/\(q=r++[n]\/lx q (r++[n])):=by
 obtain⟨Q,Q',rfl⟩:=Xh hr;have e:Q++r::Q'=(Q++[r])++Q':=by simp
 rw[e]at hl ho|-;have yb:=Xv.1 ho;have hL:=NN hg hT (a:=a) (Q++[r]) (fun q hq=>hl q (Zy _ hq)) yb.1;have hs:=aci Q [] r n ([],T) hn;rw[NM];rcases(hL.n n).1 hs with h|⟨q,hq,h⟩
 .grind
 .refine .inr ⟨q,NP _ _ q hq,h,?_⟩;obtain⟨r1,lV,m,rfl,_⟩:=hL.p q hq;rw[yk]at h;rcases ZI.1 lV with h1|h1
  .have h2:=(Xv.1 yb.1).2.2 r1 h1 r (by simp);refine .inr (Ep ?_ h2);grind
  grind
theorem jn.next{g:ae->List ae}(hg:∀n,bI (g n)){a:ae}{k:Nat}{P:List (List ae)}{S:List ae}(h:jn g a k P S)(hn:∀q∈P,a∉g (br a q)):jn g a (k+1) (ju g a P ([],S)).1 (ju g a P ([],S)).2:=by
 have hL:=NN hg (a:=a) (k:=k) h.d P (fun q hq=>(h.p q hq).2) h.o;have hp:∀q∈(ju g a P ([],S)).1,dw g a q/\q.length=k+1:=fun q hq=>by obtain⟨r,hr,n,rfl,hn⟩:=hL.p q hq;obtain⟨h1,h2⟩:=h.p r hr;exact⟨h1.snoc hn,by simp[h2]⟩
 refine⟨hp,hL.o,hL.d,fun x hx=>?_,fun q hq=>?_,fun q hq hl=>?_,fun aW=>?_⟩
 .rcases(hL.n x).1 hx with h1|⟨q,h1,h2⟩
  .obtain⟨q,g1,g2,g3⟩:=h.r x h1;grind
  grind
 .have h1:=h.no q hq;rcases Xj h1 with e|e
  .obtain⟨r,hr,e1,dV⟩:=h.c q hq.1 e.symm;have vB:fG g a r:=⟨hr,by rw[e1];exact hq.2⟩
   rcases dV with dV|⟨dV,_⟩
   .have:=h.no r vB;omega
   .exact absurd vB.2 (hn r dV)
  grind
 .obtain⟨q0,n,rfl⟩:∃q0 n,q=q0++[n]:=⟨q.dropLast,q.getLast (by grind),(List.dropLast_concat_getLast _).symm⟩
  have AH:=hq.left;have nI:n∈g (br a q0):=hq.right.1;have nH:q0.length=k:=by grind
  obtain⟨r,hr,e1,dV⟩:=h.c q0 AH nH;rw[<-e1]at nI;rw[yk];rcases dV with dV|⟨dV,kQ⟩
  .exact⟨r++[n],hr.snoc nI,yk _ _ _,.inl (by grind)⟩
  .have hlr:=(h.p r dV).2;rcases acj hg (a:=a) (k:=k) h.d (fun q hq=>(h.p q hq).2) h.o dV nI with h1|⟨q1,h1,h2,h3⟩
   .obtain⟨q1,g1,g2,g3⟩:=h.r n h1;exact⟨q1,g1,g2,.inl (by omega)⟩
   .refine⟨q1,(hp q1 h1).1,h2,.inr ⟨h1,?_⟩⟩;have h4:r++[n]=q0++[n]\/lx (r++[n]) (q0++[n]):=by
     rcases kQ with rfl|h5
     .exact .inl rfl
     .exact .inr (Ep (by omega) h5)
    rcases h3 with rfl|h3
    .exact h4
    .rcases h4 with h4|h4
     .rw[<-h4];exact .inr h3
     .exact .inr (Er h3 h4)
 .have h1:=hL.l;have h2:0<(ju g a P ([],S)).1.length:=X4.2 aW;have h3:P≠[]:=by intro e;subst e;exact aW rfl
  have:=h.z h3;omega
theorem jn.none{g:ae->List ae}{a:ae}{k:Nat}{S:List ae}(h:jn g a k [] S):∀q,¬fG g a q:=by
 have key:∀(n:Nat) (q:List ae),q.length=n->¬fG g a q:=by
  intro n
  induction n using Nat.strongRecOn with
  |ind n ih=>
   intro q hl hq;have h1:=h.no q hq;have e:q=q.take k++q.drop k:=(Y9 k q).symm;have hp:=hq.1;rw[e]at hp;obtain⟨r,hr,e1,dV⟩:=h.c (q.take k) hp.left (by grind);rcases dV with dV|⟨dV,_⟩
   .refine ih (r++q.drop k).length (by grind) (r++q.drop k) rfl ⟨hr.app (by rw[e1];exact hp.right),?_⟩;rw[Bc,e1,← Bc,Y9];exact hq.2
   grind
 grind
theorem jn.sub{g:ae->List ae}{a:ae}{k:Nat}{P:List (List ae)}{S:List ae}(h:jn g a k P S){N:List ae}(hN:∀x y,y∈g x->y∈N)(hd:∀x∈S,∃y,x∈g y):S.length<=N.length:=
 jh h.d fun x hx=>by grind
structure mr(g:ae->List ae)(b:ae)(d:ae->Nat):Prop where
 r:∀x,d x<1000->eX g (d x) x b
 l:∀k x,eX g k x b->d x<=k
theorem HZ{p:ae->Bool}:∀{l:List ae} {x:ae},bI l->l.find? p=some x->∀y∈l,p y=true->y=x\/c6 x y=true
 |a::l,x,hs,h,y,hy,hp=>by
  have lW:=X2.1 hs;rw[List.find?_cons]at h;split at h
  .grind
  .rcases ZR.1 hy with rfl|hy
   .grind
   .exact HZ lW.2 h y hy hp
inductive jS(g:ae->List ae)(d:ae->Nat):Nat->ae->List ae->Prop
 |nil {a:ae}:jS g d 0 a []
 |cons {n:Nat} {a b:ae} {l:List ae} (h:(g a).find? (fun x=>decide (d x=n+1))=some b) (t:jS g d n b l):jS g d (n+1) a (b::l)
theorem jS.len{g:ae->List ae}{d:ae->Nat}{n:Nat}{a:ae}{l:List ae}(h:jS g d n a l):l.length=n:=by
 induction h with
 |nil=>rfl|cons _ _ ih=>simp[ih]
theorem jS.Sv{g:ae->List ae}{b:ae}{d:ae->Nat}(hd:mr g b d){n:Nat}{a:ae}{l:List ae}(h:jS g d n a l)(ha:d a=n+1)(h1:d a<1000):dw g a l/\b∈g (br a l):=by
 induction h with
 |nil=>
  refine⟨trivial,?_⟩;have:=hd.r _ h1;rw[ha]at this;cases this with
  |one h=>exact h|cons _ t=>exact absurd t.pos (by omega)
 |cons h _ ih=>have h2:=XP h;have h3:=XU h;have h2:=Yl h2;obtain⟨h4,h5⟩:=ih h2 (by omega);exact⟨⟨h3,h4⟩,h5⟩
theorem jS.sX{g:ae->List ae}(hg:∀n,bI (g n)){b:ae}{d:ae->Nat}(hd:mr g b d){n:Nat}{a:ae}{l:List ae}(h:jS g d n a l)(ha:d a=n+1)(h1:d a<1000):
  ∀m,dw g a m->b∈g (br a m)->m.length=n->m=l\/lx l m:=by
 induction h with
 |nil=>grind| @cons n a c l h t ih=>
  intro m hm hb hl;cases m with
  |nil=>grind|cons x m=>
   have h2:d c=n+1:=by grind
   have h3:=hd.l _ _ (dw.wK hm.2 hb);have fw:m.length=n:=by grind
   have h4:n+1<=d x:=by
    rcases YN (d x) (n+1)with az|vG
    .have:=hd.l _ _ (eX.cons hm.1 (hd.r x (by omega)));omega
    grind
   have h5:d x=n+1:=by omega
   rcases HZ (hg a) h x hm.1 (by simp[h5])with rfl|h6
   .rcases ih h2 (by omega) m hm.2 hb fw with rfl|h7
    .grind
    .exact .inr (.inr ⟨rfl,h7⟩)
   .exact .inr (.inl h6)
theorem jS.Qm{g:ae->List ae}(hg:∀n,bI (g n)){b:ae}{d:ae->Nat}(hd:mr g b d){n:Nat}{l:List ae}(h:jS g d n b l)(ha:d b=n+1)(h1:d b<1000):np g b l:=by have hl:=h.len;refine⟨h.Sv hd ha h1,fun m hm=>?_,fun m hm e=>h.sX hg hd ha h1 m hm.1 hm.2 (by omega)⟩;have:=hd.l _ _ (dw.wK hm.1 hm.2);omega
theorem mr.next{g:ae->List ae}{b:ae}{d:ae->Nat}(hd:mr g b d){n:Nat}{a:ae}(ha:d a=n+2)(h1:d a<1000):∃c,(g a).find? (fun x=>decide (d x=n+1))=some c:=by
 have h2:=hd.r a h1;rw[ha]at h2;cases h2 with
 |cons h t=>
  rename_i c;have h3:=hd.l _ _ t;have h4:n+1<=d c:=by
   rcases YN (d c) (n+1)with az|vG
   .have:=hd.l _ _ (eX.cons h (hd.r c (by omega)));omega
   grind
  cases h5:(g a).find? (fun x=>decide (d x=n+1))with
  |some c=>grind|none=>grind
def nL(fs:List aj)(n:ae):Bool:=(findF fs n).isSome
theorem P5{fs:List aj}{n:ae}:nL fs n=true↔∃f∈fs,f.name=n:=by unfold nL findF;rw[List.find?_isSome];simp
def kh:List aj->List ae->List ae
 |[],l=>l|f::fs,l=>kh fs (dm l f.name)
theorem SF{x:ae}:∀{fs:List aj} {l:List ae},x∈kh fs l↔(∃f∈fs,f.name=x)\/x∈l
 |[],l=>by simp[kh]|f::fs,l=>by rw[kh,SF (fs:=fs),wy];grind
theorem SG:∀{fs:List aj} {l:List ae},bI l->bI (kh fs l)
 |[],_,h=>h|_::fs,_,h=>SG (fs:=fs) (yw h)
theorem qB:bI []:=List.Pairwise.nil
def bX(fs:List aj):List ae:=kh fs []
theorem Ka(fs:List aj):bI (bX fs):=SG qB
theorem yl{fs:List aj}{n:ae}:n∈bX fs↔nL fs n=true:=by rw[P5];unfold bX;rw[SF];simp
theorem Kv:∀(fs:List aj) (l:List ae),(kh fs l).length<=l.length+fs.length
 |[],l=>ZO _|f::fs,l=>by
  have h1:=Kv fs (dm l f.name);have h2:∀(l:List ae) (s:ae),(dm l s).length<=l.length+1:=fun l s=>by
   induction l with
   |nil=>simp[dm]|cons a l ih=>unfold dm;grind
  have h3:=h2 l f.name;rw[kh,ZY];omega
theorem Be(fs:List aj):(bX fs).length<=fs.length:=by have:=Kv fs [];simpa[bX]using this
def ny(x:Ex):List ae:=(gA x ([],[])).1
def Nr(x:Ex):List ae:=(gA x ([],[])).2
theorem Ni{x:Ex}{s:ae}:s∈ny x↔s∈x.bH:=by rw[ny,(CX x ([],[])).1];simp
theorem Nj(x:Ex):bI (ny x):=(CY x ([],[]) qB qB).1
def deps(fs:List aj)(n:ae):List ae:=match findF fs n with
 |some f=>(ny f.body).filter (nL fs)|none=>[]
theorem ak9{l:List ae}{p:ae->Bool}(h:bI l):bI (l.filter p):=List.Pairwise.filter _ h
theorem CS(fs:List aj)(n:ae):bI (deps fs n):=by
 unfold deps;split
 .exact ak9 (Nj _)
 .exact qB
theorem M9{fs:List aj}{n m:ae}:m∈deps fs n↔∃f,findF fs n=some f/\m∈f.body.bH/\nL fs m=true:=by
 unfold deps;split
 .rw[Y6,Ni];grind
 grind
theorem xo{fs:List aj}{n m:ae}(h:m∈deps fs n):m∈bX fs:=by obtain⟨_,_,_,h⟩:=M9.1 h;exact yl.2 h
def ready(g:ae->List ae)(out:List ae)(n:ae):Bool:=decide (n∉out)&&(g n).all fun m=>decide (m∈out)
def um(g:ae->List ae)(N out:List ae):Option ae:=N.find? (ready g out)
def Bl(g:ae->List ae)(N:List ae):Nat->List ae->List ae
 |0,out=>out|k+1,out=>match um g N out with
  |some n=>Bl g N k (out++[n])|none=>out
def Sc(g:ae->List ae)(N:List ae):List ae:=Bl g N N.length []
structure jT(g:ae->List ae)(N out:List ae):Prop where
 d:out.Nodup
 s:∀x∈out,x∈N
 e:Sc g N=Bl g N (N.length-out.length) out
 b:∀i (hi:i<out.length),∀m∈g out[i],m∈out.take i
theorem jT.start(g:ae->List ae)(N:List ae):jT g N []:=⟨.nil,fun x h=>(by cases h),rfl,fun i hi=>absurd hi (by simp)⟩
theorem KA{g:ae->List ae}{out:List ae}{n:ae}:ready g out n=true↔n∉out/\∀m∈g n,m∈out:=by unfold ready;simp
theorem jT.len{g:ae->List ae}{N out:List ae}(h:jT g N out):out.length<=N.length:=jh h.d h.s
theorem jT.step{g:ae->List ae}{N out:List ae}{n:ae}(h:jT g N out)(hn:um g N out=some n):jT g N (out++[n])/\out.length<N.length:=by
 have h1:=XU hn;obtain⟨h2,h3⟩:=KA.1 (XP hn);have hd:(out++[n]).Nodup:=Xz.2 ⟨h.d,by simp,fun x hx y hy e=>by grind⟩;have hs:∀x∈out++[n],x∈N:=fun x hx=>by
  rcases ZI.1 hx with hx|hx
  .exact h.s x hx
  grind
 have hl:=jh hd hs;rw[Z7,Y1]at hl;refine⟨⟨hd,hs,?_,fun i hi m hm=>?_⟩,hl⟩
 .rw[h.e,show N.length-out.length=(N.length-(out++[n]).length)+1 by grind,Bl,hn]
 .by_cases jD:i<out.length
  .rw[YI jD]at hm;rw[Zg (by omega)];exact h.b i jD m hm
  .have e:i=out.length:=by grind
   simp_all
theorem jT.done{g:ae->List ae}{N out:List ae}(h:jT g N out)(hn:um g N out=none):out=Sc g N:=by
 rw[h.e];cases hk:N.length-out.length with
 |zero=>rfl|succ k=>rw[Bl,hn]
theorem jT.end_{g:ae->List ae}{N:List ae}:∃out,jT g N out/\um g N out=none:=by
 have key:∀k out,jT g N out->N.length-out.length<=k->∃out,jT g N out/\um g N out=none:=by
  intro k
  induction k with
  |zero=>
   intro out h hk;refine⟨out,h,?_⟩;cases hn:um g N out with
   |none=>rfl|some n=>have:=(h.step hn).2;omega
  |succ k ih=>
   intro out h hk;cases hn:um g N out with
   |none=>grind|some n=>obtain⟨h1,h2⟩:=h.step hn;grind
 exact key _ [] (jT.start g N) (ZO _)
def sM(g:ae->List ae)(N l:List ae):Prop:=
 (l=[]/\∀a∈N,∀q,¬fG g a q)\/∃a q,l=a::q/\a∈N/\np g a q/\(∀b∈N,c6 b a=true->∀m,fG g b m->q.length<m.length)/\∀b∈N,∀m,fG g b m->q.length<=m.length
theorem sM.uniq{g:ae->List ae}{N l l':List ae}(h:sM g N l)(k:sM g N l'):l=l':=by
 rcases h with⟨rfl,h⟩|⟨a,q,rfl,ha,hb,h1,h2⟩<;>rcases k with⟨rfl,k⟩|⟨b,m,rfl,kb,kc,k1,k2⟩
 .rfl
 .exact absurd kc.c (h b kb m)
 .exact absurd hb.c (k a ha q)
 .have e:a=b:=by
   by_cases e1:c6 a b=true
   .have:=k1 a ha e1 q hb.c;have:=h2 b kb m kc.c;omega
   .by_cases e2:c6 b a=true
    .have:=h1 b kb e2 m kc.c;have:=k2 a ha q hb.c;omega
    .exact KR (by grind) (by grind)
  subst e;rw[hb.uniq kc]
open Classical in
noncomputable def lJ(g:ae->List ae)(N:List ae):List ae:=if h:∃l,sM g N l then h.choose else[]
theorem CR{g:ae->List ae}{N l:List ae}(h:sM g N l):lJ g N=l:=by
 have h':∃l,sM g N l:=⟨l,h⟩
 unfold lJ;rw[dif_pos h'];exact h'.choose_spec.uniq h
def jQ(g:ae->List ae)(N:List ae)(i:Nat)(l:List ae):Prop:=
 (l=[]/\∀j (hj:j<N.length),j<i->∀q,¬fG g N[j] q)\/
  ∃(k:Nat) (hk:k<N.length) (q:List ae),k<i/\l=N[k]::q/\np g N[k] q/\(∀j (hj:j<N.length),j<k->∀m,fG g N[j] m->q.length<m.length)/\∀j (hj:j<N.length),j<i->∀m,fG g N[j] m->q.length<=m.length
theorem jQ.start(g:ae->List ae)(N:List ae):jQ g N 0 []:=.inl ⟨rfl,fun j _ h=>absurd h (by omega)⟩
theorem jQ.none{g:ae->List ae}{N l:List ae}{i:Nat}(h:jQ g N i l)(hi:i<N.length)(hn:∀q,¬fG g N[i] q):jQ g N (i+1) l:=by
 rcases h with⟨rfl,h⟩|⟨k,hk,q,h1,rfl,h2,h3,h4⟩
 .refine .inl ⟨rfl,fun j hj az q=>?_⟩;grind
 .refine .inr ⟨k,hk,q,by omega,rfl,h2,h3,fun j hj az m hm=>?_⟩;grind
theorem jQ.skip{g:ae->List ae}{N l p:List ae}{i:Nat}(h:jQ g N i l)(hi:i<N.length)(hb:np g N[i] p)(hl:l≠[])(hle:l.length<=p.length+1):jQ g N (i+1) l:=by
 rcases h with⟨rfl,h⟩|⟨k,hk,q,h1,rfl,h2,h3,h4⟩
 .grind
 .refine .inr ⟨k,hk,q,by omega,rfl,h2,h3,fun j hj az m hm=>?_⟩;rcases X3 (XM az)with h5|rfl
  .grind
  .have:=hb.s m hm;grind
theorem jQ.take{g:ae->List ae}{N l p:List ae}{i:Nat}(h:jQ g N i l)(hi:i<N.length)(hb:np g N[i] p)(az:l=[]\/p.length+1<l.length):jQ g N (i+1) (N[i]::p):=by
 refine .inr ⟨i,hi,p,by omega,rfl,hb,fun j hj jF m hm=>?_,fun j hj jF m hm=>?_⟩
 .rcases h with⟨rfl,h⟩|⟨k,hk,q,h1,rfl,h2,h3,h4⟩
  .grind
  grind
 .rcases X3 (XM jF)with h5|rfl
  .rcases h with⟨rfl,h⟩|⟨k,hk,q,h1,rfl,h2,h3,h4⟩
   .grind
   grind
  .exact hb.s m hm
theorem jQ.done{g:ae->List ae}{N l:List ae}(hN:bI N)(h:jQ g N N.length l):l=lJ g N:=by
 refine(CR ?_).symm;have lt:∀(k:Nat) (hk:k<N.length) (j:Nat) (hj:j<N.length),c6 N[j] N[k]=true->j<k:=fun k hk j hj h=>by
  rcases YN j k with h1|h1
  .exact h1
  .rcases Xj h1 with rfl|h2
   .rw[qy]at h;grind
   .have:=Yo.1 hN k j hk hj h2;rw[E2 this]at h;grind
 rcases h with⟨rfl,h⟩|⟨k,hk,q,h1,rfl,h2,h3,h4⟩
 .refine .inl ⟨rfl,fun a ha q=>?_⟩;obtain⟨j,hj,rfl⟩:=Zc ha;grind
 .refine .inr ⟨_,q,rfl,Zb _,h2,fun b hb az m hm=>?_,fun b hb m hm=>?_⟩
  .obtain⟨j,hj,rfl⟩:=Zc hb;grind
  .obtain⟨j,hj,rfl⟩:=Zc hb;exact h4 j hj hj m hm
end Go.Proofs.YtmemninechdogaaGreatDoor
set_option maxHeartbeats 4000000
namespace Go.Proofs.YtmemninechdogaaGreatDoor
open _root_.Go.Proofs.Tryz
open Go.Sx Go.Proofs
def Hq:List AV:=[sv ⟨#[]⟩,sv ⟨#[]⟩,iv 0,.v (.slice none 0 0),sv ⟨#[]⟩,iv 0,sv ⟨#[]⟩,sv ⟨#[]⟩,sv ⟨#[]⟩,iv 0,iv 0,sv ⟨#[]⟩,.v (.slice none 0 0),iv 0,iv 0,iv 0,.v (.slice none 0 0),iv 0]
def Om(o:Option aj):AV:=match o with
 |some f=>.aG [.agg f.cells,.v (.bool true)]|none=>.aG [.agg Hq,.v (.bool false)]
theorem ahX(x:aj)(n:ae)(b c:Nat)(Y:aE)(U:Store):At prog 81 [.agg x.cells,.lp 3 b 0] (.v (.bool (decide (x.name=n)))) ((4,c,Y)::(3,b,aE.cells [sv n])::U):=by
 refine k81.a ?_;repeat'(first|exact .nil|refine .k ?_|refine .r1 ?_ ?_|(refine .m1 ?_ ?_;intro b)|fail)
 .exact Sx.Fin.intro Zs rfl
theorem P6(fs:List aj)(n:ae)(b c:Nat)(Y:aE)(U:Store):At prog 80 [.sl false 18 (fs.map aj.cells),.v (.func (.func 81) #[] #[.pointer (some ⟨b,0,none⟩)])] (iv (firstIdx (fun x=>decide (x.name=n)) fs 0)) ((4,c,Y)::(3,b,aE.cells [sv n])::U):=by
 refine JW.a ?_;repeat'(first|exact .nil|refine .k ?_|refine .r1 ?_ ?_|(refine .m2 ?_ ?_;intro hlen)|fail)
 all_goals(simp_all)
 refine aP (fun m rg af=>∃i:Nat,i<=fs.length/\m=fs.length-i/\(∀j,j<i->¬(fs.getD j default).name=n)/\af=(4,c,Y)::(3,b,aE.cells [sv n])::U/\rg=[(0,.sl false 18 (fs.map aj.cells)),(1,.v (.func (.func 81) #[] #[.pointer (some ⟨b,0,none⟩)])),(7,iv fs.length),(8,iv i)]) fs.length rfl ⟨_,_,Zr,Zs,0,Z4 _,rfl,fun j hj=>absurd hj (by omega),rfl,rfl⟩ ?_;rintro m _ _ ⟨i,hi,hn,hp,rfl,rfl⟩;repeat'(first|exact .nil|refine .k ?_|grind|(refine .cd ?_ ?_<;>intro hc)|refine .r1 ?_ ?_|refine .t1 ?_ ?_ ?_|fail)
 try grind
 all_goals(try simp only[BL]at*)
 refine Mm rfl rfl (by rfl) (fun _=>(ahX (fs.getD i default) n b c Y U).wk (cj.cons (Wk.refl _) (cj.cons (Wk.ptr _ _ _) cj.nil))) OB.nil ?_;repeat'(first|exact .nil|refine .k ?_|(refine .cd ?_ ?_<;>intro hc)|refine .r1 ?_ ?_|fail)
 all_goals(try simp only[BL]at*)
 .rw[q8 (p:=fun x:aj=>decide (x.name=n)) (l:=fs) (k:=0) (i:=i) (fun j hj=>Zp (hp j hj)) (by omega) (Y7 hc),ZH];exact Zw
 .refine⟨fs.length-(i+1),by omega,_,_,Zr,Zs,i+1,by omega,rfl,dj hp hc,rfl,by rw[bj (by omega) hlen]⟩
 .rw[q9 (fun y hy=>Zp (kj (p:=fun y:aj=>¬y.name=n) (fun j hj=>hp j (by omega)) y hy))];exact Zw
theorem vf(p:aj->Bool):∀(l:List aj) (k:Nat),(l.find? p=none/\firstIdx p l k= -1)\/∃i:Nat,i<l.length/\firstIdx p l k=((k+i:Nat):Int)/\l.find? p=some (l.getD i default)
 |[],k=>.inl ⟨rfl,rfl⟩|x::l,k=>by
  unfold firstIdx;by_cases h:p x=true
  .grind
  .rcases vf p l (k+1)with⟨h1,h2⟩|⟨i,h1,h2,h3⟩
   .grind
   .exact .inr ⟨i+1,by grind,by grind,by grind⟩
theorem acZ(fs:List aj)(n:ae)(h:findF fs n=none):Pure prog 34 [.sl false 18 (fs.map aj.cells),sv n] (.aG [.agg Hq,.v (.bool false)]):=by
 have hi:=fun b c Y U=>P6 fs n b c Y U;have h2:firstIdx (fun x=>decide (x.name=n)) fs 0= -1:=by
  rcases vf (fun x=>decide (x.name=n)) fs 0 with⟨h1,h2⟩|⟨i,h3,h2,h1⟩
  .exact h2
  .unfold findF at h;grind
 rw[h2]at hi;refine QE.p fun X=>?_;repeat'(first|exact .nil|refine .k ?_|refine .r1 ?_ ?_|refine .l1 fun b=>?_|(refine .m1 ?_ ?_;intro b)|fail)
 all_goals(simp_all)
 refine Ck rfl (fun _=>hi _ _ _ _) OB.nil ?_;repeat'(first|exact .nil|refine .k ?_|(refine .cd ?_ ?_<;>(simp_all))|refine .r1 ?_ ?_|refine .t1 ?_ ?_ ?_|fail)
 try any_goals(exact Zo)
 all_goals(try simp only[BL]at*)
 all_goals first|(exfalso;omega)|((refine Sx.Fin.wk Zs ?_;repeat' first|exact .refl _|fail))|fail
theorem ac2(fs:List aj)(n:ae)(f:aj)(h:findF fs n=some f):Pure prog 34 [.sl false 18 (fs.map aj.cells),sv n] (.aG [.agg f.cells,.v (.bool true)]):=by
 have hi:=fun b c Y U=>P6 fs n b c Y U;obtain⟨i,h3,h2,h1⟩:∃i:Nat,i<fs.length/\firstIdx (fun x=>decide (x.name=n)) fs 0=(i:Int)/\fs.getD i default=f:=by
  rcases vf (fun x=>decide (x.name=n)) fs 0 with⟨h1,h2⟩|⟨i,h3,h2,h1⟩
  .unfold findF at h;grind
  .unfold findF at h;grind
 rw[h2]at hi;subst h1;refine QE.p fun X=>?_;repeat'(first|exact .nil|refine .k ?_|refine .r1 ?_ ?_|refine .l1 fun b=>?_|(refine .m1 ?_ ?_;intro b)|fail)
 all_goals(simp)
 refine Ck rfl (fun _=>hi _ _ _ _) OB.nil ?_;repeat'(first|exact .nil|refine .k ?_|grind|(refine .cd ?_ ?_<;>intro hc)|refine .r1 ?_ ?_|refine .t1 ?_ ?_ ?_|fail)
 try any_goals(exact Zo)
 all_goals(try simp only[BL]at*)
 all_goals first|(exfalso;omega)|((refine Sx.Fin.wk Zs ?_;repeat' first|exact .refl _|fail))|fail
