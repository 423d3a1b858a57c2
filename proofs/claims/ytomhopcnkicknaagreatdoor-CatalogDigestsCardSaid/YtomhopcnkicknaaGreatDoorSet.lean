/- Maps keyed by names, in the walk's words: which names stand there, and what stands at each; slices of names. -/
import Derived.Maps.OwnSet
import Derived.Maps.OwnOps
import Derived.Maps.RangeWalk
import Derived.Sort.MapsRangeIn
import Derived.Sort.KeysCollected
import Derived.Carry
import Derived.OwnWalk
import Derived.Maps.AppendAt
import Derived.WalkKit
import Derived.Test.YtomhopcnkicknaaGreatDoorPt
set_option linter.unusedSimpArgs false
set_option linter.unusedVariables false
set_option linter.unusedSectionVars false
namespace Go.Tb
open Go.Maps Go.RowKit
open Go.Proofs (encStr)
instance (s:ByteArray)(L:List ByteArray):Decidable (s∈L):= @List.instDecidableMemOfLawfulBEq _ instBEqOfDecidableEq inferInstance s L
def ky(s:ByteArray):Lit:= .string s.data.toList
theorem vZ(s:ByteArray):WideAt.IsKeyLit (ky s):=trivial
theorem Ww{a b:ByteArray}(h:a.data.toList=b.data.toList):a=b:=by
 cases a;cases b;simp only[ByteArray.mk.injEq];exact Array.toList_inj.1 h
theorem Oo{a b:ByteArray}(h:ky a=ky b):a=b:=Ww (by simpa[ky]using h)
theorem Hl{a b:ByteArray}(h:a≠b):ky a≠ky b:=fun e=>h (Oo e)
def dh(w:World)(P:Program)(k:TypeId)(R:Value→Option (DataW Unit×List MemPlace))(b:Nat)(L:List ByteArray)(f:ByteArray→DataW Unit):Prop:=
 L.Nodup∧(∀ s∈L,s.size≤maxLen)∧∃ D,w.ownsMap P k R b L.length D∧(∀ s,s.size≤maxLen→has D (ky s)=decide (s∈L))∧∀ s∈L,∀ z,D.atKey (ky s) z=f s
def ins(L:List ByteArray)(s:ByteArray):List ByteArray:=if s∈L then L else L++[s]
theorem oR{L:List ByteArray}{s x:ByteArray}:x∈ins L s↔x=s∨x∈L:=by
 unfold ins
 split
 ·rename_i h;constructor
  ·exact .inr
  ·rintro(rfl|h');exact h;exact h'
 ·simp[or_comm]
theorem N0{L:List ByteArray}{s:ByteArray}(h:L.Nodup):(ins L s).Nodup:=by
 unfold ins
 split
 ·exact h
 ·rename_i hn
  exact XA.2 ⟨h,by simp,fun a ha b hb e=>by rw[Zq]at hb;subst hb;subst e;exact hn ha⟩
theorem adF(L:List ByteArray)(s:ByteArray):(ins L s).length≤L.length+1:=by unfold ins;split<;>simp
def cR(L:List ByteArray)(l:List ByteArray):List ByteArray:=l.foldl ins L
theorem qa{x:ByteArray}:∀ {l L:List ByteArray},x∈cR L l↔x∈l∨x∈L
 |[],L=>by simp[cR]
 |s::l,L=>by
  rw[show cR L (s::l)=cR (ins L s) l from rfl,qa (l:=l),oR,ZQ];grind
theorem CF:∀ {l L:List ByteArray},L.Nodup→(cR L l).Nodup
 |[],L,h=>h
 |s::l,L,h=>CF (l:=l) (N0 h)
theorem zF:∀ (l L:List ByteArray),(cR L l).length≤L.length+l.length
 |[],L=>ZR _
 |s::l,L=>by
  have h1:=zF l (ins L s)
  have h2:=adF L s
  simp only[Z8]
  exact ZJ h1 (by omega)
theorem NZ(L a b:List ByteArray):cR L (a++b)=cR (cR L a) b:=List.foldl_append
section
variable {P:Program}{k:TypeId}{R:Value→Option (DataW Unit×List MemPlace)}{w:World}{b:Nat}{L:List ByteArray}{f:ByteArray→DataW Unit}
theorem dh.lt(h:dh w P k R b L f):b<w.heap.size:=let⟨_,_,_,h,_⟩:=h;h.lt
theorem dh.isMap(h:dh w P k R b L f):∃ es c,w.heap[b]? =some (.map es c):=by
 obtain⟨_,_,D,⟨es,c,h,_⟩,_⟩:=h;exact⟨es,c,h⟩
theorem Q2(w:World)(P:Program)(k:TypeId)(R:Value→Option (DataW Unit×List MemPlace))(f:ByteArray→DataW Unit):dh (w.alloc (.map #[] 0)) P k R w.heap.size [] f:=
 ⟨XB,(fun s h=>nomatch h),_,World.ownsMap_made w P k R,(fun s _=>by simp[has]),(fun s h=>nomatch h)⟩
theorem dh.kept{w':World}{row:Option Nat}(h:dh w P k R b L f)(hg:w.grownBy w' row)(bB:some b≠row):dh w' P k R b L f:=by
 obtain⟨h1,h2,D,h3,h4,h5⟩:=h;exact⟨h1,h2,D,h3.kept hg bB,h4,h5⟩
theorem dh.alloc(h:dh w P k R b L f)(o:Obj):dh (w.alloc o) P k R b L f:=h.kept (World.grownBy_alloc w o none) (by simp)
theorem dh.block{w':World}(h:dh w P k R b L f)(hb:w'.heap[b]? =w.heap[b]?):dh w' P k R b L f:=by
 obtain⟨h1,h2,D,⟨es,c,h3,h6⟩,h4,h5⟩:=h;exact⟨h1,h2,D,⟨es,c,hb.trans h3,h6⟩,h4,h5⟩
theorem dh.congr{f':ByteArray→DataW Unit}(h:dh w P k R b L f)(hf:∀ s∈L,f s=f' s):dh w P k R b L f':=by
 obtain⟨h1,h2,D,h3,h4,h5⟩:=h;exact⟨h1,h2,D,h3,h4,fun s hs z=>(h5 s hs z).trans (hf s hs)⟩
theorem dh.store{w':World}{s:ByteArray}{D:DataW Unit}{d:DataW Unit}(h1:L.Nodup)(h2:∀ s∈L,s.size≤maxLen)(hm:IsMap D)(h4:∀ s,s.size≤maxLen→has D (ky s)=decide (s∈L))(h5:∀ s∈L,∀ z,D.atKey (ky s) z=f s)
  (hs:s.size≤maxLen) (h:w'.ownsMap P k R b (L.length+1) (D.put (ky s) d)) (K:Keyed P k) (hT:Tidy D) (hn:size D≤L.length):dh w' P k R b (ins L s) (fun x=>if x=s then d else f x):=by
 have hz:size (D.put (ky s) d)≤(ins L s).length:=by
  rw[size_put hT,h4 s hs]
  unfold ins
  by_cases hm:s∈L
  ·simpa[hm]using hn
  ·simpa[hm]using hn
 refine⟨N0 h1,fun x hx=> ?_,D.put (ky s) d,?_,fun x hx=> ?_,fun x hx z=> ?_⟩
 ·rcases oR.1 hx with rfl|hx
  ·exact hs
  ·exact h2 x hx
 ·obtain⟨es,c,a1,a2,a3,a4⟩:=h
  refine⟨es,c,a1,a2,?_,a4⟩
  have e:size (D.put (ky s) d)=es.size:=by rw[a4,size_eq,length_read]
  omega
 ·by_cases e:x=s
  ·subst e
   rw[has_put_same hm (vZ _)]
   simp[oR]
  ·rw[has_put_other (Hl e),h4 x hx]
   simp[oR,e]
 ·by_cases e:x=s
  ·subst e
   rw[atKey_put_same hm (vZ _)];exact(Z3 rfl).symm
  ·rw[atKey_put_other (Hl e)]
   rcases oR.1 hx with hx|hx
   ·exact absurd hx e
   ·exact(h5 x hx z).trans (Z6 e).symm
end
section
variable {P:Program}{k:TypeId}(hk:P.underlying k=some .string)
variable {ops:Array Oper}{rest:List Oper}{o:Oper}{a:Act}{Q:Exit→Act→World→Prop}
theorem R5(w:World)(hg:o.guard=none)(m x v:Operand)(t:TypeId)(cO:o.op=Op.mapUpdate t m x v)(hk:P.underlying k=some .string)(e:TypeId)(ht:P.underlying t=some (.map k e))
  (R:Value→Option (DataW Unit×List MemPlace)) (b:Nat) (L:List ByteArray) (f:ByteArray→DataW Unit) (hm:a.eval m= .map (some b)) (h:dh w P k R b L f) (hn:L.length<maxLen) (s:ByteArray) (hx:a.eval x= .string s) (hs:s.size≤maxLen)
  (val:Value) (hv:a.eval v=val) (d:DataW Unit) (ps:List MemPlace) (hd:R val=some (d,ps))
  (hK:∀ w',dh w' P k R b (ins L s) (fun x=>if x=s then d else f x)→w.grownBy w' (some b)→wpList P ops Q rest (a.put o.dst undef) w'):wpList P ops Q (o::rest) a w:=by
 obtain⟨h1,h2,D,h3,h4,h5⟩:=h
 refine wpList_mapUpdate_own w hg m x v t cO k e (string_keyed hk) ht R b L.length D hm h3 hn _ val (ky s) hx hv (WideMaps.keyOf_string_mk hk hs) d ps hd fun w' hw kL=>hK w' ?_ kL
 exact dh.store h1 h2 h3.isMap h4 h5 hs hw (string_keyed hk) (h3.tidy (string_keyed hk)) h3.size_le
theorem R4(w:World)(hg:o.guard=none)(m x:Operand)(t:TypeId)(cO:o.op=Op.lookup t m x false)(hk:P.underlying k=some .string)(e:TypeId)(ht:P.underlying t=some (.map k e))
  (R:Value→Option (DataW Unit×List MemPlace)) (z:Value) (hz:(zeroValue e).run P w= .ok z w) (zd:DataW Unit) (zp:List MemPlace) (hzd:R z=some (zd,zp))
  (b:Nat) (L:List ByteArray) (f:ByteArray→DataW Unit) (hm:a.eval m= .map (some b)) (h:dh w P k R b L f) (s:ByteArray) (hx:a.eval x= .string s) (hs:s.size≤maxLen)
  (val:Value) (hval:∀ v ps,R v=some (if s∈L then f s else zd,ps)→v=val)
  (hK:wpList P ops Q rest (a.put o.dst val) w):wpList P ops Q (o::rest) a w:=by
 obtain⟨h1,h2,D,h3,h4,h5⟩:=h
 refine wpList_plain hg fun K' rj=> ?_
 obtain⟨v,ps,eW,jN⟩:=h3.lookup (string_keyed hk) ht hz hzd (WideMaps.keyOf_string_mk hk hs)
 have e1:v=val:=by
  refine hval v ps ?_
  rw[jN]
  by_cases eO:s∈L
  ·rw[Z3 eO]
   exact Zy (fun d=>some (d,ps)) (h5 s eO zd)
  ·rw[Z6 eO]
   have h6:has D (ky s)=false:=by rw[h4 s hs];simp[eO]
   exact Zy (fun d=>some (d,ps)) (atKey_of_not_has h6 zd)
 subst e1
 unfold Oper.wp
 have ac9:(Instr.lookup t (Value.map (some b)) (Value.string s) false).run P w= .ok v w:=eW
 simp[execOp,cO,hm,hx,ac9,Result.andThen]
 exact rj _ _ hK
def eQ(w:World)(P:Program)(k:TypeId)(R:Value→Option (DataW Unit×List MemPlace))(b r:Nat)(L:List ByteArray)(f:ByteArray→DataW Unit)(left:ByteArray→Prop)(aY:Nat):Prop:=
 L.Nodup∧(∀ s∈L,s.size≤maxLen)∧∃ D lf,w.ranges P k R b r L.length D lf aY∧(∀ s,s.size≤maxLen→has D (ky s)=decide (s∈L))∧(∀ s∈L,∀ z,D.atKey (ky s) z=f s)∧∀ s,s.size≤maxLen→(lf (ky s)=true↔left s)
theorem eQ.dh{w:World}{R:Value→Option (DataW Unit×List MemPlace)}{b r:Nat}{L:List ByteArray}{f:ByteArray→DataW Unit}{left:ByteArray→Prop}{aY:Nat}(h:eQ w P k R b r L f left aY):dh w P k R b L f:=by
 obtain⟨h1,h2,D,lf,h3,h4,h5,_⟩:=h;exact⟨h1,h2,D,h3.owns,h4,h5⟩
theorem eQ.left_eq{w:World}{R:Value→Option (DataW Unit×List MemPlace)}{b r:Nat}{L:List ByteArray}{f:ByteArray→DataW Unit}{left:ByteArray→Prop}{aY:Nat}(h:eQ w P k R b r L f left aY):w.rangeLeft b r=aY:=by
 obtain⟨h1,h2,D,lf,h3,_⟩:=h;exact h3.left_eq
theorem eQ.kept{w w':World}{R:Value→Option (DataW Unit×List MemPlace)}{b r:Nat}{L:List ByteArray}{f:ByteArray→DataW Unit}{left:ByteArray→Prop}{aY:Nat}{row:Option Nat}(h:eQ w P k R b r L f left aY)(hg:w.grownBy w' row)(hb:some b≠row)(hr:some r≠row):eQ w' P k R b r L f left aY:=by
 obtain⟨h1,h2,D,lf,h3,h4,h5,h6⟩:=h;exact⟨h1,h2,D,lf,h3.kept hg hb hr,h4,h5,h6⟩
theorem eQ.iter{w:World}{R:Value→Option (DataW Unit×List MemPlace)}{b r:Nat}{L:List ByteArray}{f:ByteArray→DataW Unit}{left:ByteArray→Prop}{aY:Nat}(h:eQ w P k R b r L f left aY):∃ x y z u,w.heap[r]? =some (.mapIter x y z u):=by
 obtain⟨h1,h2,D,lf,⟨es,clock,since,seen,c0,_,_,_,_,h3,_⟩,_⟩:=h;exact⟨_,_,_,_,h3⟩
theorem Jp(w:World)(hg:o.guard=none)(m:Operand)(t:TypeId)(cO:o.op=Op.range t m)(hk:P.underlying k=some .string)(e:TypeId)(ht:P.underlying t=some (.map k e))
  (R:Value→Option (DataW Unit×List MemPlace)) (b:Nat) (L:List ByteArray) (f:ByteArray→DataW Unit) (hm:a.eval m= .map (some b)) (h:dh w P k R b L f)
  (hK:∀ w' aY,eQ w' P k R b w.heap.size L f (·∈L) aY→w.grownBy w' none→w'.heap.size=w.heap.size+1→wpList P ops Q rest (a.put o.dst (.pointer (some ⟨w.heap.size,0,none⟩))) w'):wpList P ops Q (o::rest) a w:=by
 obtain⟨h1,h2,D,h3,h4,h5⟩:=h
 exact wpList_range_own w hg m t cO k e (string_keyed hk) ht R b L.length D hm h3 fun w' hr kL bC=>hK w' _ ⟨h1,h2,D,_,hr,h4,h5,fun s hs=>by rw[h4 s hs];simp⟩ kL bC
theorem Jo(w:World)(hg:o.guard=none)(it:Operand)(cO:o.op=Op.next it false)(hk:P.underlying k=some .string)(R:Value→Option (DataW Unit×List MemPlace))(CX:ByteArray→Value)
  (b r:Nat) (L:List ByteArray) (f:ByteArray→DataW Unit) (adI:∀ s∈L,∀ v ps,R v=some (f s,ps)→v=CX s) (left:ByteArray→Prop) (aY:Nat)
  (hit:a.eval it= .pointer (some ⟨r,0,none⟩)) (h:eQ w P k R b r L f left aY)
  (acy:(∀ s,s.size≤maxLen→¬left s)→wpList P ops Q rest (a.put o.dst (.tuple #[.bool false])) w)
  (acA:∀ (s:ByteArray) (w':World) (eD:Nat),s∈L→left s→eQ w' P k R b r L f (fun x=>left x∧x≠s) eD→eD<aY→w.grownBy w' (some r)→w'.heap.size=w.heap.size→
   (Instr.entry (.pointer (some ⟨r,0,none⟩))).run P w'= .ok (.tuple #[.string s,CX s]) w'→wpList P ops Q rest (a.put o.dst (.tuple #[.bool true,.string s,CX s])) w'):
  wpList P ops Q (o::rest) a w:=by
 obtain⟨h1,h2,D,lf,h3,h4,h5,h6⟩:=h
 refine wpList_plain hg fun K' rj=> ?_
 unfold Oper.wp
 rcases h3.next (string_keyed hk) o.type with⟨h0,hl,eW⟩|⟨key,v,kl,y,w',eD,yN,yQ,hv,jN,eW,tI,ax,kL,bC,vM⟩
 ·simp[execOp,cO,hit,eW,Result.andThen]
  exact rj _ _ (acy fun s hs fj=>by have:=(h6 s hs).2 fj;rw[hl]at this;cases this)
 ·obtain⟨x,rfl,rfl,hx⟩:=Maps.keyOf_str hk yN
  obtain⟨s,hs⟩:∃ s:ByteArray,s.data.toList=x:=⟨⟨x.toArray⟩,by simp⟩
  subst hs
  have iw:s.size≤maxLen:=by rw[Zi]at hx;exact hx
  have eO:s∈L:=by
   have e1:has D (ky s)=true:=has_true_of_atKey jN
   rw[h4 s iw]at e1
   simpa using e1
  have hval:v=CX s:=by
   refine adI s eO v y.2 ?_
   rw[hv,← h5 s eO (f s)]
   exact Zy some (Prod.ext (jN (f s)).symm rfl)
  have F8:encStr s.data.toList= .string s:=by simp[encStr]
  rw[F8]at eW vM
  subst hval
  simp[execOp,cO,hit,eW,Result.andThen]
  refine rj _ _ (acA s w' eD eO ((h6 s iw).1 yQ) ⟨h1,h2,D,_,tI,h4,h5,fun x oN=> ?_⟩ ax kL bC vM)
  rw[ZP,h6 x oN]
  refine and_congr_right fun _=> ?_
  by_cases e:x=s
  ·subst e
   have e2:=WideAt.sameKey_self (vZ x)
   have e3:(ky x).sameKey (Lit.string x.data.toList)=true:=e2
   simp[e3]
  ·have e2:=sameKey_ne (Hl e)
   have e3:(ky x).sameKey (Lit.string s.data.toList)=false:=e2
   simp[e3,e]
end
abbrev tt:DataW Unit:= .lit (.bool true)
def set(w:World)(P:Program)(k e:TypeId)(b:Nat)(L:List ByteArray):Prop:=dh w P k (plainElem P e) b L fun _=>tt
theorem Bf{P:Program}{e:TypeId}(he:P.underlying e=some .bool){v:Value}{c:Bool}{ps:List MemPlace}(h:plainElem (H:=Unit) P e v=some (.lit (.bool c),ps)):v= .bool c:=by
 unfold plainElem at h
 rw[he]at h
 cases v<;>simp at h
 rw[h.1]
section
variable {P:Program}{k e:TypeId}{ops:Array Oper}{rest:List Oper}{o:Oper}{a:Act}{Q:Exit→Act→World→Prop}
theorem ui(w:World)(P:Program)(k e:TypeId):set (w.alloc (.map #[] 0)) P k e w.heap.size []:=Q2 w P k _ _
theorem Az(w:World)(hg:o.guard=none)(m x v:Operand)(t:TypeId)(cO:o.op=Op.mapUpdate t m x v)(hk:P.underlying k=some .string)(he:P.underlying e=some .bool)(ht:P.underlying t=some (.map k e))
  (b:Nat) (L:List ByteArray) (hm:a.eval m= .map (some b)) (h:set w P k e b L) (hn:L.length<maxLen) (s:ByteArray) (hx:a.eval x= .string s) (hs:s.size≤maxLen) (hv:a.eval v= .bool true)
  (hK:∀ w',set w' P k e b (ins L s)→w.grownBy w' (some b)→wpList P ops Q rest (a.put o.dst undef) w'):wpList P ops Q (o::rest) a w:=
 R5 w hg m x v t cO hk e ht _ b L _ hm h hn s hx hs _ hv tt [] (plainElem_bool he true) fun w' hw kL=>hK w' (hw.congr fun x _=>by split<;>rfl) kL
theorem si(w:World)(hg:o.guard=none)(m x:Operand)(t:TypeId)(cO:o.op=Op.lookup t m x false)(hk:P.underlying k=some .string)(he:P.underlying e=some .bool)(ht:P.underlying t=some (.map k e))
  (hz:(zeroValue e).run P w= .ok (.bool false) w) (b:Nat) (L:List ByteArray) (hm:a.eval m= .map (some b)) (h:set w P k e b L) (s:ByteArray) (hx:a.eval x= .string s) (hs:s.size≤maxLen)
  (hK:wpList P ops Q rest (a.put o.dst (.bool (decide (s∈L)))) w):wpList P ops Q (o::rest) a w:=
 R4 w hg m x t cO hk e ht _ (.bool false) hz (.lit (.bool false)) [] (plainElem_bool he false) b L _ hm h s hx hs (.bool (decide (s∈L))) (fun v ps hv=>by
  by_cases eO:s∈L
  ·rw[Z3 eO]at hv;rw[Bf he hv];simp[eO]
  ·rw[Z6 eO]at hv;rw[Bf he hv];simp[eO]) hK
end
def mapElem:Value→Option (DataW Unit×List MemPlace)
 | .map (some b)=>some (.lit (.int .i64 b),[])
 | .map none=>some (.nil,[])
 |_=>none
theorem OQ{v:Value}{n:Nat}{ps:List MemPlace}(h:mapElem v=some (.lit (.int .i64 n),ps)):v= .map (some n):=by
 unfold mapElem at h
 split at h
 ·simp at h;have:=h.1;rw[Int.ofNat_inj.1 this]
 ·simp at h
 ·cases h
theorem agl{v:Value}{ps:List MemPlace}(h:mapElem v=some (.nil,ps)):v= .map none:=by
 unfold mapElem at h
 split at h
 ·simp at h
 ·rfl
 ·cases h
def maps(w:World)(P:Program)(k:TypeId)(b:Nat)(L:List ByteArray)(at_:ByteArray→Nat):Prop:=dh w P k mapElem b L fun s=> .lit (.int .i64 (at_ s))
section
variable {P:Program}{k e:TypeId}{ops:Array Oper}{rest:List Oper}{o:Oper}{a:Act}{Q:Exit→Act→World→Prop}
theorem xg(w:World)(hg:o.guard=none)(m x:Operand)(t:TypeId)(cO:o.op=Op.lookup t m x false)(hk:P.underlying k=some .string)(ht:P.underlying t=some (.map k e))
  (hz:(zeroValue e).run P w= .ok (.map none) w) (b:Nat) (L:List ByteArray) (at_:ByteArray→Nat) (hm:a.eval m= .map (some b)) (h:maps w P k b L at_) (s:ByteArray) (hx:a.eval x= .string s) (hs:s.size≤maxLen)
  (hK:wpList P ops Q rest (a.put o.dst (.map (if s∈L then some (at_ s)else none))) w):wpList P ops Q (o::rest) a w:=
 R4 w hg m x t cO hk e ht _ (.map none) hz .nil [] rfl b L _ hm h s hx hs _ (fun v ps hv=>by
  by_cases eO:s∈L
  ·rw[Z3 eO]at hv ⊢;exact OQ hv
  ·rw[Z6 eO]at hv ⊢;exact agl hv) hK
theorem aM8(w:World)(hg:o.guard=none)(m x v:Operand)(t:TypeId)(cO:o.op=Op.mapUpdate t m x v)(hk:P.underlying k=some .string)(ht:P.underlying t=some (.map k e))
  (b:Nat) (L:List ByteArray) (at_:ByteArray→Nat) (hm:a.eval m= .map (some b)) (h:maps w P k b L at_) (hn:L.length<maxLen) (s:ByteArray) (hx:a.eval x= .string s) (hs:s.size≤maxLen) (n:Nat) (hv:a.eval v= .map (some n))
  (hK:∀ w',maps w' P k b (ins L s) (fun x=>if x=s then n else at_ x)→w.grownBy w' (some b)→wpList P ops Q rest (a.put o.dst undef) w'):wpList P ops Q (o::rest) a w:=
 R5 w hg m x v t cO hk e ht _ b L _ hm h hn s hx hs _ hv (.lit (.int .i64 n)) [] rfl fun w' hw kL=>hK w' (hw.congr fun x _=>by by_cases e:x=s<;>simp[e]) kL
end
end Go.Tb
set_option maxRecDepth 100000
namespace Go.Proofs.YtomhopcnkicknaaGreatDoor
open Go.Sx Go.Proofs
structure az where
 tables:List aP
 features:List aj
 bn:List aj
 past:List aj
deriving Inhabited
def az.cells(c:az):List AV:=[.sl false 4 (c.tables.map aP.cells),.sl false 18 (c.features.map aj.cells),.sl false 18 (c.bn.map aj.cells),.sl false 18 (c.past.map aj.cells)]
def ct(a b:ae):Bool:=Op.bytesLess a.toList b.toList
theorem Kw:∀ (x y:List UInt8),Op.bytesLess x y=decide (x<y)
 |[],[]=>by simp[Op.bytesLess]
 |_::_,[]=>by simp[Op.bytesLess]
 |[],_::_=>by simp[Op.bytesLess]
 |a::x,b::y=>by
  rw[Op.bytesLess,Kw x y]
  simp only[List.cons_lt_cons_iff]
  by_cases h1:a<b<;>by_cases h2:a=b<;>by_cases h3:x<y<;>simp[h1,h2,h3]
theorem toList_data(a:ae):a.toList=a.data.toList:=ByteArray.toList_eq a
theorem Dn(a b:ae):ct a b=true↔a.data.toList<b.data.toList:=by
 unfold ct
 rw[Kw,toList_data,toList_data,Zn]
theorem rP(a:ae):ct a a=false:=by
 rw[← Yi,Dn];exact List.lt_irrefl _
theorem Ix{a b c:ae}(h:ct a b=true)(k:ct b c=true):ct a c=true:=by
 rw[Dn]at *;exact List.lt_trans h k
theorem Ql{a b:ae}(h:ct a b=false)(k:ct b a=false):a=b:=by
 rw[← Yi,Dn]at h k
 exact j9 (List.le_antisymm (List.not_lt.1 k) (List.not_lt.1 h))
theorem Dm{a b:ae}(h:ct a b=true):ct b a=false:=by
 rw[← Yi];intro k
 have:=Ix h k
 rw[rP]at this;cases this
def bg(l:List ae):Prop:=l.Pairwise fun a b=>ct a b=true
def cZ:List ae→ae→List ae
 |[],s=>[s]
 |a::l,s=>if ct a s=true then a::cZ l s else if a=s then a::l else s::a::l
theorem ud{s x:ae}:∀ {l:List ae},x∈cZ l s↔x=s∨x∈l
 |[]=>by simp[cZ]
 |a::l=>by
  have ih:=ud (s:=s) (x:=x) (l:=l)
  unfold cZ
  split
  ·simp only[ZQ,ih];grind
  ·split
   ·rename_i h;subst h;simp
   ·simp
theorem wG{s:ae}:∀ {l:List ae},bg l→bg (cZ l s)
 |[],_=>by simp[cZ,bg]
 |a::l,h=>by
  have h1:=Yh.1 h
  unfold cZ
  split
  ·rename_i ax
   refine Yh.2 ⟨fun x hx=> ?_,wG h1.2⟩
   rcases ud.1 hx with rfl|hx
   ·exact ax
   ·exact h1.1 x hx
  ·split
   ·exact h
   ·rename_i h2 h3
    have h4:ct s a=true:=by
     by_cases e:ct s a=true
     ·exact e
     ·exact absurd (Ql (by simpa using h2) (by simpa using e)) h3
    refine Yh.2 ⟨fun x hx=> ?_,h⟩
    rcases ZQ.1 hx with rfl|hx
    ·exact h4
    ·exact Ix h4 (h1.1 x hx)
theorem mH:∀ {a b:List ae},bg a→bg b→(∀ x,x∈a↔x∈b)→a=b
 |[],[],_,_,_=>rfl
 |[],y::b,_,_,h=>absurd ((h y).2 (by simp)) (by simp)
 |x::a,[],_,_,h=>absurd ((h x).1 (by simp)) (by simp)
 |x::a,y::b,ha,hb,h=>by
  have h1:=Yh.1 ha
  have h2:=Yh.1 hb
  have e:x=y:=by
   rcases ZQ.1 ((h x).1 (by simp))with e|hx
   ·exact e
   ·rcases ZQ.1 ((h y).2 (by simp))with e|hy
    ·exact e.symm
    ·have k1:=h2.1 x hx
     have k2:=h1.1 y hy
     rw[Dm k1]at k2;cases k2
  subst e
  rw[mH h1.2 h2.2 fun z=> ?_]
  have hz:=h z
  have n1:x∉a:=fun hm=>by have:=h1.1 x hm;rw[rP]at this;cases this
  have n2:x∉b:=fun hm=>by have:=h2.1 x hm;rw[rP]at this;cases this
  constructor
  ·intro hm
   rcases ZQ.1 (hz.1 (by simp[hm]))with e|h'
   ·subst e;exact absurd hm n1
   ·exact h'
  ·intro hm
   rcases ZQ.1 (hz.2 (by simp[hm]))with e|h'
   ·subst e;exact absurd hm n2
   ·exact h'
def putAt:List ae→ae→Nat
 |[],_=>0
 |a::l,s=>if ct a s=true then putAt l s+1 else 0
theorem zX:∀ (l:List ae) (s:ae),cZ l s=if putAt l s<l.length∧l.getD (putAt l s) default=s then l else l.take (putAt l s)++[s]++l.drop (putAt l s)
 |[],s=>by simp[cZ,putAt]
 |a::l,s=>by
  unfold cZ putAt
  have ih:=zX l s
  split
  ·rw[ih]
   simp only[Z8,XL,XM,List.drop_succ_cons,Nat.add_lt_add_iff_right]
   split<;>simp
  ·simp only[Z8,List.getD_cons_zero,YB,List.drop_zero]
   by_cases h:a=s
   ·rw[Z3 h,Z3 ⟨by omega,h⟩]
   ·rw[Z6 h,Z6 (fun h'=>h h'.2)];rfl
mutual
def fI:Ex→List ae×List ae→List ae×List ae
 | .mk k o n t v u p w ks,a=>ey ks (if k=3∨k=4 then(cZ a.1 n,a.2)else if k=5 then(a.1,cZ a.2 t)else a)
def ey:List Ex→List ae×List ae→List ae×List ae
 |[],a=>a
 |x::l,a=>ey l (fI x a)
end
mutual
def Ex.aR:Ex→List ae
 | .mk k o n t v u p w ks=>(if k=3∨k=4 then[n]else[])++Ex.cM ks
def Ex.cM:List Ex→List ae
 |[]=>[]
 |x::l=>x.aR++Ex.cM l
end
mutual
def Ex.bO:Ex→List ae
 | .mk k o n t v u p w ks=>(if k=5 then[t]else[])++Ex.bG ks
def Ex.bG:List Ex→List ae
 |[]=>[]
 |x::l=>x.bO++Ex.bG l
end
mutual
theorem Bv:∀ (x:Ex) (a:List ae×List ae),(∀ s,s∈(fI x a).1↔s∈x.aR∨s∈a.1)∧(∀ s,s∈(fI x a).2↔s∈x.bO∨s∈a.2)
 | .mk k o n t v u p w ks,a=>by
  have ih:=Le ks (if k=3∨k=4 then(cZ a.1 n,a.2)else if k=5 then(a.1,cZ a.2 t)else a)
  rw[fI,Ex.aR,Ex.bO]
  refine⟨fun s=> ?_,fun s=> ?_⟩
  ·rw[ih.1 s,ZI]
   by_cases h:k=3∨k=4
   ·simp only[Z3 h,ud,Zq];grind
   ·by_cases h5:k=5
    ·simp only[Z6 h,Z3 h5];simp
    ·simp only[Z6 h,Z6 h5];simp
  ·rw[ih.2 s,ZI]
   by_cases h:k=3∨k=4
   ·have h5:¬k=5:=by omega
    simp only[Z3 h,Z6 h5];simp
   ·by_cases h5:k=5
    ·simp only[Z6 h,Z3 h5,ud,Zq];grind
    ·simp only[Z6 h,Z6 h5];simp
theorem Le:∀ (l:List Ex) (a:List ae×List ae),(∀ s,s∈(ey l a).1↔s∈Ex.cM l∨s∈a.1)∧(∀ s,s∈(ey l a).2↔s∈Ex.bG l∨s∈a.2)
 |[],a=>by simp[ey,Ex.cM,Ex.bG]
 |x::l,a=>by
  have h1:=Bv x a
  have h2:=Le l (fI x a)
  rw[ey,Ex.cM,Ex.bG]
  refine⟨fun s=> ?_,fun s=> ?_⟩
  ·rw[h2.1 s,h1.1 s,ZI];grind
  ·rw[h2.2 s,h1.2 s,ZI];grind
end
mutual
theorem Bw:∀ (x:Ex) (a:List ae×List ae),bg a.1→bg a.2→bg (fI x a).1∧bg (fI x a).2
 | .mk k o n t v u p w ks,a,h1,h2=>by
  rw[fI]
  refine Lf ks _ ?_ ?_
  ·split
   ·exact wG h1
   ·split<;>exact h1
  ·split
   ·exact h2
   ·split
    ·exact wG h2
    ·exact h2
theorem Lf:∀ (l:List Ex) (a:List ae×List ae),bg a.1→bg a.2→bg (ey l a).1∧bg (ey l a).2
 |[],a,h1,h2=>by rw[ey];exact⟨h1,h2⟩
 |x::l,a,h1,h2=>by
  rw[ey]
  have h:=Bw x a h1 h2
  exact Lf l _ h.1 h.2
end
def findF(l:List aj)(n:ae):Option aj:=l.find? fun f=>decide (f.name=n)
theorem sY{l:List aj}{n:ae}{f:aj}(h:findF l n=some f):f∈l∧f.name=n:=by
 unfold findF at h
 exact⟨XN h,by simpa using X3 h⟩
inductive Reach(fs:List aj)(s:List ae):ae→Prop
 |base {n:ae} (h:n∈s):Reach fs s n
 |step {n m:ae} {f:aj} (h:Reach fs s n) (hf:findF fs n=some f) (hm:m∈f.body.aR):Reach fs s m
def uN(fs:List aj)(s t:List ae)(x:ae):Prop:=x∈t∨∃ n f,Reach fs s n∧findF fs n=some f∧x∈f.body.bO
def qJ(fs:List aj)(F T:List ae):Prop:=∀ n∈F,∀ f,findF fs n=some f→(∀ m∈f.body.aR,m∈F)∧∀ x∈f.body.bO,x∈T
theorem Dd{fs:List aj}{s t F T:List ae}(h1:∀ n∈s,n∈F)(h2:∀ x∈t,x∈T)(h3:∀ n∈F,Reach fs s n)(h4:∀ x∈T,uN fs s t x)(hc:qJ fs F T):
  (∀ n,n∈F↔Reach fs s n)∧∀ x,x∈T↔uN fs s t x:=by
 have hF:∀ n,Reach fs s n→n∈F:=fun n h=>by
  induction h with
  |base h=>exact h1 _ h
  |step _ hf hm ih=>exact(hc _ ih _ hf).1 _ hm
 refine⟨fun n=>⟨h3 n,hF n⟩,fun x=>⟨h4 x,fun h=> ?_⟩⟩
 rcases h with h|⟨n,f,hn,hf,hx⟩
 ·exact h2 x h
 ·exact(hc n (hF n hn) f hf).2 x hx
open Classical in
noncomputable def Dt(p:ae→Prop):List ae:=if h:∃ l,bg l∧∀ x,x∈l↔p x then h.choose else[]
theorem rR{p:ae→Prop}{l:List ae}(h1:bg l)(h2:∀ x,x∈l↔p x):Dt p=l:=by
 have h:∃ l,bg l∧∀ x,x∈l↔p x:=⟨l,h1,h2⟩
 unfold Dt
 rw[dif_pos h]
 exact mH h.choose_spec.1 h1 fun x=>(h.choose_spec.2 x).trans (h2 x).symm
noncomputable def rY(fs:List aj)(x:Ex):List ae:=Dt (Reach fs x.aR)
noncomputable def rZ(fs:List aj)(x:Ex):List ae:=Dt (uN fs x.aR x.bO)
theorem wR{l:List ae}(h:bg l):l.Nodup:=h.imp fun {a b} vF e=>by rw[e,rP]at vF;cases vF
theorem gn{α:Type}[DecidableEq α]:∀ {a b:List α},a.Nodup→(∀ x∈a,x∈b)→a.length≤b.length
 |[],_,_,_=>Z1 _
 |x::a,b,h,hs=>by
  have h1:=YX.1 h
  have hx:=hs x (by simp)
  have h2:=gn (b:=b.erase x) h1.2 fun y hy=>(List.mem_erase_of_ne (fun e=>h1.1 (by rw[← e];exact hy))).2 (hs y (by simp[hy]))
  rw[List.length_erase_of_mem hx]at h2
  have h3:0<b.length:=List.length_pos_of_mem hx
  simp only[Z8]
  omega
theorem agR{α:Type}[DecidableEq α]{a b:List α}(h:a.Nodup)(hs:∀ x∈a,x∈b)(hl:b.length≤a.length):∀ x∈b,x∈a:=fun x hx=>by
 by_cases hm:x∈a
 ·exact hm
 ·have h2:=gn (a:=x::a) (b:=b) (YX.2 ⟨hm,h⟩) fun y hy=>by
   rcases ZQ.1 hy with rfl|hy
   ·exact hx
   ·exact hs y hy
  simp only[Z8]at h2
  omega
theorem aLJ{a b:List ae}(ha:bg a)(hb:bg b)(hs:∀ x∈a,x∈b)(hl:b.length≤a.length):a=b:=
 mH ha hb fun x=>⟨hs x,agR (wR ha) hs hl x⟩
def univ(fs:List aj)(s:List ae):List ae:=s++fs.flatMap fun f=>f.body.aR
theorem ahK{fs:List aj}{s:List ae}{n:ae}(h:Reach fs s n):n∈univ fs s:=by
 cases h with
 |base h=>exact ZK _ h
 |step _ hf hm=>exact Zt _ (XO.2 ⟨_,(sY hf).1,hm⟩)
end Go.Proofs.YtomhopcnkicknaaGreatDoor
namespace Go.Proofs.YtomhopcnkicknaaGreatDoor
open Go.Sx Go.Proofs Go.Tb
inductive eC(g:ae→List ae):Nat→ae→ae→Prop
 |one {a b:ae} (h:b∈g a):eC g 1 a b
 |cons {k:Nat} {a b c:ae} (h:b∈g a) (t:eC g k b c):eC g (k+1) a c
theorem eC.trans{g:ae→List ae}{k l:Nat}{a b c:ae}(h:eC g k a b)(t:eC g l b c):eC g (k+l) a c:=by
 induction h with
 |one h=>rw[Nat.add_comm];exact .cons h t
 |cons h _ ih=>rw[Nat.add_right_comm];exact .cons h (ih t)
theorem eC.pos{g:ae→List ae}{k:Nat}{a b:ae}(h:eC g k a b):1≤k:=by cases h<;>omega
def c6(g:ae→List ae):ae→List ae→Prop
 |_,[]=>True
 |a,b::l=>b∈g a∧c6 g b l
def bh:ae→List ae→ae
 |a,[]=>a
 |_,b::l=>bh b l
theorem wm:∀ (a:ae) (l:List ae) (b:ae),bh a (l++[b])=b
 |_,[],_=>rfl
 |_,x::l,b=>wm x l b
theorem c6.snoc{g:ae→List ae}:∀ {a:ae} {l:List ae} {b:ae},c6 g a l→b∈g (bh a l)→c6 g a (l++[b])
 |_,[],_,_,h=>⟨h,trivial⟩
 |_,_::_,_,h,hb=>⟨h.1,c6.snoc h.2 hb⟩
theorem c6.app{g:ae→List ae}:∀ {a:ae} {l m:List ae},c6 g a l→c6 g (bh a l) m→c6 g a (l++m)
 |_,[],_,_,h=>h
 |_,_::_,_,h,hb=>⟨h.1,c6.app h.2 hb⟩
theorem zO:∀ (a:ae) (l m:List ae),bh a (l++m)=bh (bh a l) m
 |_,[],_=>rfl
 |_,x::l,m=>zO x l m
theorem c6.left{g:ae→List ae}:∀ {a:ae} {l m:List ae},c6 g a (l++m)→c6 g a l
 |_,[],_,_=>trivial
 |_,_::_,_,h=>⟨h.1,c6.left h.2⟩
theorem c6.right{g:ae→List ae}:∀ {a:ae} {l m:List ae},c6 g a (l++m)→c6 g (bh a l) m
 |_,[],_,h=>h
 |_,_::l,_,h=>c6.right (l:=l) h.2
def fb(g:ae→List ae)(a:ae)(l:List ae):Prop:=c6 g a l∧a∈g (bh a l)
theorem c6.um{g:ae→List ae}{c:ae}:∀ {a:ae} {l:List ae},c6 g a l→c∈g (bh a l)→eC g (l.length+1) a c
 |_,[],_,h=> .one h
 |_,_::_,h,hc=> .cons h.1 (c6.um h.2 hc)
theorem eC.PI{g:ae→List ae}{k:Nat}{a c:ae}(h:eC g k a c):∃ l,c6 g a l∧c∈g (bh a l)∧l.length+1=k:=by
 induction h with
 |one h=>exact⟨[],trivial,h,rfl⟩
 |cons h _ ih=>
  obtain⟨l,h1,h2,h3⟩:=ih
  exact⟨_::l,⟨h,h1⟩,h2,by simpa using h3⟩
def lx:List ae→List ae→Prop
 |a::l,b::m=>ct a b=true∨a=b∧lx l m
 |_,_=>False
theorem CT:∀ {l m n:List ae},lx l m→lx m n→lx l n
 |_::_,_::_,_::_,h,k=>by
  rcases h with h|⟨rfl,h⟩<;>rcases k with k|⟨rfl,k⟩
  ·exact .inl (Ix h k)
  ·exact .inl h
  ·exact .inl k
  ·exact .inr ⟨rfl,CT h k⟩
 |[],_,_,h,_=>by cases h
 |_::_,[],_,h,_=>by cases h
 |_::_,_::_,[],_,k=>by cases k
theorem OO:∀ {l:List ae},¬lx l l
 |[],h=>h
 |a::l,h=>by
  rcases h with h|⟨_,h⟩
  ·rw[rP]at h;cases h
  ·exact OO h
theorem CS:∀ {l m:List ae} {b c:ae},l.length=m.length→lx l m→lx (l++[b]) (m++[c])
 |_::_,_::_,_,_,hl,h=>by
  rcases h with h|⟨rfl,h⟩
  ·exact .inl h
  ·exact .inr ⟨rfl,CS (by simpa using hl) h⟩
 |[],_,_,_,_,h=>by cases h
 |_::_,[],_,_,_,h=>by cases h
theorem OP:∀ {l:List ae} {b c:ae},ct b c=true→lx (l++[b]) (l++[c])
 |[],_,_,h=> .inl h
 |_::_,_,_,h=> .inr ⟨rfl,OP h⟩
structure me(g:ae→List ae)(a:ae)(l:List ae):Prop where
 c:fb g a l
 s:∀ m,fb g a m→l.length≤m.length
 m:∀ m,fb g a m→m.length=l.length→m=l∨lx l m
theorem me.uniq{g:ae→List ae}{a:ae}{l m:List ae}(h:me g a l)(k:me g a m):l=m:=by
 have h1:=h.s _ k.c
 have h2:=k.s _ h.c
 rcases h.m _ k.c (by omega)with e|e
 ·exact e.symm
 ·rcases k.m _ h.c (by omega)with e'|e'
  ·exact e'
  ·exact absurd (CT e e') OO
def ext1(p:List ae):List ae→List (List ae)×List ae→List (List ae)×List ae
 |[],s=>s
 |n::l,s=>ext1 p l (if n∈s.2 then s else(s.1++[p++[n]],s.2++[n]))
def iQ(g:ae→List ae)(a:ae):List (List ae)→List (List ae)×List ae→List (List ae)×List ae
 |[],s=>s
 |p::l,s=>iQ g a l (ext1 p (g (bh a p)) s)
theorem E4(p:List ae)(n:ae):∀ (l:List ae) (s:List (List ae)×List ae),ext1 p (l++[n]) s=if n∈(ext1 p l s).2 then ext1 p l s else((ext1 p l s).1++[p++[n]],(ext1 p l s).2++[n])
 |[],s=>rfl
 |x::l,s=>E4 p n l _
theorem E5(g:ae→List ae)(a:ae)(p:List ae):∀ (l:List (List ae)) (s:List (List ae)×List ae),iQ g a (l++[p]) s=ext1 p (g (bh a p)) (iQ g a l s)
 |[],s=>rfl
 |x::l,s=>E5 g a p l _
structure lb(g:ae→List ae)(a:ae)(k:Nat)(D:List (List ae))(T:List ae)(s:List (List ae)×List ae):Prop where
 p:∀ q∈s.1,∃ r∈D,∃ n,q=r++[n]∧n∈g (bh a r)
 n:∀ x,x∈s.2↔x∈T∨∃ q∈s.1,bh a q=x
 d:s.2.Nodup
 o:s.1.Pairwise lx
 l:s.2.length=T.length+s.1.length
theorem lb.start{g:ae→List ae}{a:ae}{k:Nat}{T:List ae}(h:T.Nodup):lb g a k [] T ([],T):=
 ⟨fun q hq=>(by cases hq),fun x=>⟨.inl,fun h=>by rcases h with h|⟨q,hq,_⟩;exact h;cases hq⟩,h,.nil,by simp⟩
theorem lb.wider{g:ae→List ae}{a:ae}{k:Nat}{D D':List (List ae)}{T:List ae}{s:List (List ae)×List ae}(h:lb g a k D T s)(hD:∀ r∈D,r∈D'):lb g a k D' T s:=
 ⟨fun q hq=>by obtain⟨r,hr,n,h1⟩:=h.p q hq;exact⟨r,hD r hr,n,h1⟩,h.n,h.d,h.o,h.l⟩
theorem lb.ext1{g:ae→List ae}{a:ae}{k:Nat}{D:List (List ae)}{T:List ae}{p:List ae}(hp:p∈D)(hlen:∀ r∈D,r.length=k)(Ca:∀ r∈D,r=p∨lx r p):
  ∀ (l:List ae) (s:List (List ae)×List ae),lb g a k D T s→(∀ n∈l,n∈g (bh a p))→bg l→(∀ q∈s.1,∀ n∈l,lx q (p++[n]))→lb g a k D T (Go.Proofs.YtomhopcnkicknaaGreatDoor.ext1 p l s)
 |[],s,h,_,_,_=>h
 |n::l,s,h,hg,hs,hq=>by
  have pS:=Yh.1 hs
  rw[Go.Proofs.YtomhopcnkicknaaGreatDoor.ext1]
  by_cases hm:n∈s.2
  ·rw[Z3 hm]
   exact lb.ext1 hp hlen Ca l s h (fun x hx=>hg x (by simp[hx])) pS.2 fun q nz x hx=>hq q nz x (by simp[hx])
  ·rw[Z6 hm]
   refine lb.ext1 hp hlen Ca l _ ⟨fun q nz=> ?_,fun x=> ?_,?_,?_,by have:=h.l;simp only[Z9,Zg];omega⟩ (fun x hx=>hg x (by simp[hx])) pS.2 ?_
   ·rcases ZI.1 nz with h1|h1
    ·exact h.p q h1
    ·rw[Zq]at h1;subst h1
     exact⟨p,hp,n,rfl,hg n (by simp)⟩
   ·have:=h.n x
    simp only[ZI,Zq]
    rw[this]
    constructor
    ·rintro((h1|⟨q,h1,h2⟩)|rfl)
     ·exact .inl h1
     ·exact .inr ⟨q,.inl h1,h2⟩
     ·exact .inr ⟨_,.inr rfl,wm _ _ _⟩
    ·rintro(h1|⟨q,h1|rfl,h2⟩)
     ·exact .inl (.inl h1)
     ·exact .inl (.inr ⟨q,h1,h2⟩)
     ·rw[wm]at h2;exact .inr h2.symm
   ·exact XA.2 ⟨h.d,by simp,fun x hx y hy e=>by rw[Zq]at hy;subst hy;subst e;exact hm hx⟩
   ·refine XW.2 ⟨h.o,by simp,fun q nz y hy=> ?_⟩
    rw[Zq]at hy;subst hy
    exact hq q nz n (by simp)
   ·intro q nz x hx
    rcases ZI.1 nz with h1|h1
    ·exact hq q h1 x (by simp[hx])
    ·rw[Zq]at h1;subst h1
     exact OP (pS.1 x hx)
theorem E3{p:List ae}:∀ (l:List ae) (s:List (List ae)×List ae) (x:ae),x∈s.2∨x∈l→x∈(ext1 p l s).2
 |[],s,x,h=>by
  rcases h with h|h
  ·exact h
  ·cases h
 |n::l,s,x,h=>by
  rw[ext1]
  refine E3 l _ x ?_
  rcases h with h|h
  ·left;split
   ·exact h
   ·exact ZK _ h
  ·rcases ZQ.1 h with rfl|h
   ·left;split
    ·assumption
    ·simp
   ·exact .inr h
theorem Ly{p:List ae}:∀ (l:List ae) (s:List (List ae)×List ae) (q:List ae),q∈s.1→q∈(ext1 p l s).1
 |[],s,q,h=>h
 |n::l,s,q,h=>by
  rw[ext1]
  refine Ly l _ q ?_
  split
  ·exact h
  ·exact ZK _ h
structure iI(g:ae→List ae)(a:ae)(k:Nat)(P:List (List ae))(S:List ae):Prop where
 p:∀ q∈P,c6 g a q∧q.length=k
 o:P.Pairwise lx
 d:S.Nodup
 r:∀ x∈S,∃ q,c6 g a q∧bh a q=x∧q.length≤k
 no:∀ q,fb g a q→k≤q.length
 c:∀ q,c6 g a q→q.length=k→∃ r,c6 g a r∧bh a r=bh a q∧(r.length<k∨r∈P∧(r=q∨lx r q))
 z:P≠[]→k≤S.length
theorem iI.start(g:ae→List ae)(a:ae):iI g a 0 [[]] []:=
 ⟨fun q hq=>by rw[Zq]at hq;subst hq;exact⟨trivial,rfl⟩,by simp,.nil,fun x hx=>(by cases hx),fun _ _=>Z1 _,
  fun q hq hl=>⟨[],trivial,by rw[ZM hl],.inr ⟨by simp,.inl (ZM hl).symm⟩⟩,fun _=>Z1 _⟩
theorem iI.found{g:ae→List ae}{a:ae}{k:Nat}{P:List (List ae)}{S:List ae}(h:iI g a k P S){i:Nat}{p:List ae}(hi:P[i]? =some p)(hc:a∈g (bh a p))(hn:∀ j,j<i→∀ q,P[j]? =some q→a∉g (bh a q)):me g a p:=by
 obtain⟨dw,rfl⟩:=ZE.1 hi
 obtain⟨h1,h2⟩:=h.p _ (Zf dw)
 refine⟨⟨h1,hc⟩,fun m hm=>by rw[h2];exact h.no m hm,fun m hm hl=> ?_⟩
 obtain⟨r,hr,e,dr⟩:=h.c m hm.1 (hl.trans h2)
 have yA:fb g a r:=⟨hr,by rw[e];exact hm.2⟩
 rcases dr with dr|⟨dr,jS⟩
 ·have:=h.no r yA;omega
 ·obtain⟨j,hj,rfl⟩:=Zj dr
  have fV:i≤j:=by
   rcases YF j i with ax|tw
   ·exact absurd yA.2 (hn j ax _ (ZX hj))
   ·exact tw
  rcases XH fV with rfl|ax
  ·rcases jS with e'|e'
   ·exact .inl e'.symm
   ·exact .inr e'
  ·have:=YL.1 h.o i j dw hj ax
   rcases jS with e'|e'
   ·rw[← e'];exact .inr this
   ·exact .inr (CT this e')
theorem LA{g:ae→List ae}(hg:∀ n,bg (g n)){a:ae}{k:Nat}{T:List ae}(hT:T.Nodup):∀ (P:List (List ae)),(∀ q∈P,q.length=k)→P.Pairwise lx→
  lb g a k P T (iQ g a P ([],T)):=by
 intro P
 induction hP:P.length generalizing P with
 |zero=>intro _ _;rw[ZM hP];exact lb.start hT
 |succ n ih=>
  intro hl ho
  obtain⟨Q,p,rfl⟩:∃ Q p,P=Q++[p]:=⟨P.dropLast,P.getLast (by intro e;subst e;simp at hP),(List.dropLast_concat_getLast _).symm⟩
  have vS:=XW.1 ho
  have h:=ih Q (by simpa using hP) (fun q hq=>hl q (ZK _ hq)) vS.1
  rw[E5]
  have Ca:∀ r∈Q++[p],r=p∨lx r p:=fun r hr=>by
   rcases ZI.1 hr with h1|h1
   ·exact .inr (vS.2.2 r h1 p (by simp))
   ·exact .inl (by simpa using h1)
  refine lb.ext1 (D:=Q++[p]) (by simp) hl Ca _ _ (h.wider fun r hr=>ZK _ hr) (fun n hn=>hn) (hg _) fun q hq n hn=> ?_
  obtain⟨r,hr,m,rfl,_⟩:=h.p q hq
  have h1:=hl r (ZK _ hr)
  have h2:=hl p (by simp)
  exact CS (by omega) (vS.2.2 r hr p (by simp))
theorem abo{g:ae→List ae}{a:ae}:∀ (P Q:List (List ae)) (p:List ae) (n:ae) (s:List (List ae)×List ae),n∈g (bh a p)→n∈(iQ g a (P++p::Q) s).2:=by
 have bY:∀ (Q:List (List ae)) (s:List (List ae)×List ae) (n:ae),n∈s.2→n∈(iQ g a Q s).2:=by
  intro Q
  induction Q with
  |nil=>intro s n h;exact h
  |cons q Q ih=>intro s n h;exact ih _ _ (E3 _ _ _ (.inl h))
 intro P
 induction P with
 |nil=>intro Q p n s h;exact bY Q (ext1 p (g (bh a p)) s) n (E3 _ _ _ (.inr h))
 |cons q P ih=>intro Q p n s h;exact ih Q p n _ h
theorem Lz(g:ae→List ae)(a:ae):∀ (P Q:List (List ae)) (s:List (List ae)×List ae),iQ g a (P++Q) s=iQ g a Q (iQ g a P s)
 |[],_,_=>rfl
 |_::P,Q,_=>Lz g a P Q _
theorem LB{g:ae→List ae}{a:ae}:∀ (Q:List (List ae)) (s:List (List ae)×List ae) (q:List ae),q∈s.1→q∈(iQ g a Q s).1
 |[],_,_,h=>h
 |_::Q,s,q,h=>LB Q _ q (Ly _ _ q h)
theorem abp{g:ae→List ae}(hg:∀ n,bg (g n)){a:ae}{k:Nat}{T:List ae}(hT:T.Nodup){P:List (List ae)}(hl:∀ q∈P,q.length=k)(ho:P.Pairwise lx){r:List ae}(hr:r∈P){n:ae}(hn:n∈g (bh a r)):
  n∈T∨∃ q∈(iQ g a P ([],T)).1,bh a q=n∧(q=r++[n]∨lx q (r++[n])):=by
 obtain⟨Q,Q',rfl⟩:=X5 hr
 have e:Q++r::Q'=(Q++[r])++Q':=by simp
 rw[e]at hl ho ⊢
 have vS:=XW.1 ho
 have hL:=LA hg hT (a:=a) (Q++[r]) (fun q hq=>hl q (ZK _ hq)) vS.1
 have hs:=abo Q [] r n ([],T) hn
 rw[Lz]
 rcases(hL.n n).1 hs with h|⟨q,hq,h⟩
 ·exact .inl h
 ·refine .inr ⟨q,LB _ _ q hq,h,?_⟩
  obtain⟨r1,yX,m,rfl,_⟩:=hL.p q hq
  rw[wm]at h;subst h
  rcases ZI.1 yX with h1|h1
  ·have h2:=(XW.1 vS.1).2.2 r1 h1 r (by simp)
   refine .inr (CS ?_ h2)
   rw[hl r1 (by simp[h1]),hl r (by simp)]
  ·rw[Zq]at h1;subst h1;exact .inl rfl
theorem iI.next{g:ae→List ae}(hg:∀ n,bg (g n)){a:ae}{k:Nat}{P:List (List ae)}{S:List ae}(h:iI g a k P S)(hn:∀ q∈P,a∉g (bh a q)):iI g a (k+1) (iQ g a P ([],S)).1 (iQ g a P ([],S)).2:=by
 have hL:=LA hg (a:=a) (k:=k) h.d P (fun q hq=>(h.p q hq).2) h.o
 have hp:∀ q∈(iQ g a P ([],S)).1,c6 g a q∧q.length=k+1:=fun q hq=>by
  obtain⟨r,hr,n,rfl,hn⟩:=hL.p q hq
  obtain⟨h1,h2⟩:=h.p r hr
  exact⟨h1.snoc hn,by simp[h2]⟩
 refine⟨hp,hL.o,hL.d,fun x hx=> ?_,fun q hq=> ?_,fun q hq hl=> ?_,fun bB=> ?_⟩
 ·rcases(hL.n x).1 hx with h1|⟨q,h1,h2⟩
  ·obtain⟨q,g1,g2,g3⟩:=h.r x h1
   exact⟨q,g1,g2,by omega⟩
  ·obtain⟨g1,g2⟩:=hp q h1
   exact⟨q,g1,h2,by omega⟩
 ·have h1:=h.no q hq
  rcases XH h1 with e|e
  ·obtain⟨r,hr,e1,dr⟩:=h.c q hq.1 e.symm
   have yA:fb g a r:=⟨hr,by rw[e1];exact hq.2⟩
   rcases dr with dr|⟨dr,_⟩
   ·have:=h.no r yA;omega
   ·exact absurd yA.2 (hn r dr)
  ·exact e
 ·obtain⟨q0,n,rfl⟩:∃ q0 n,q=q0++[n]:=⟨q.dropLast,q.getLast (by intro e;subst e;simp at hl),(List.dropLast_concat_getLast _).symm⟩
  have yU:=hq.left
  have jQ:n∈g (bh a q0):=hq.right.1
  have jq:q0.length=k:=by simpa using hl
  obtain⟨r,hr,e1,dr⟩:=h.c q0 yU jq
  rw[← e1]at jQ
  rw[wm]
  rcases dr with dr|⟨dr,jS⟩
  ·exact⟨r++[n],hr.snoc jQ,wm _ _ _,.inl (by simp;omega)⟩
  ·have hlr:=(h.p r dr).2
   rcases abp hg (a:=a) (k:=k) h.d (fun q hq=>(h.p q hq).2) h.o dr jQ with h1|⟨q1,h1,h2,h3⟩
   ·obtain⟨q1,g1,g2,g3⟩:=h.r n h1
    exact⟨q1,g1,g2,.inl (by omega)⟩
   ·refine⟨q1,(hp q1 h1).1,h2,.inr ⟨h1,?_⟩⟩
    have h4:r++[n]=q0++[n]∨lx (r++[n]) (q0++[n]):=by
     rcases jS with rfl|h5
     ·exact .inl rfl
     ·exact .inr (CS (by omega) h5)
    rcases h3 with rfl|h3
    ·exact h4
    ·rcases h4 with h4|h4
     ·rw[← h4];exact .inr h3
     ·exact .inr (CT h3 h4)
 ·have h1:=hL.l
  have h2:0<(iQ g a P ([],S)).1.length:=Yl.2 bB
  have h3:P≠[]:=by
   intro e;subst e;exact bB rfl
  have:=h.z h3
  omega
theorem iI.none{g:ae→List ae}{a:ae}{k:Nat}{S:List ae}(h:iI g a k [] S):∀ q,¬fb g a q:=by
 have key:∀ (n:Nat) (q:List ae),q.length=n→¬fb g a q:=by
  intro n
  induction n using Nat.strongRecOn with
  |ind n ih=>
   intro q hl hq
   have h1:=h.no q hq
   have e:q=q.take k++q.drop k:=(YI k q).symm
   have hp:=hq.1
   rw[e]at hp
   obtain⟨r,hr,e1,dr⟩:=h.c (q.take k) hp.left (by rw[Z4];omega)
   rcases dr with dr|⟨dr,_⟩
   ·refine ih (r++q.drop k).length (by rw[Z9,X9];omega) (r++q.drop k) rfl ⟨hr.app (by rw[e1];exact hp.right),?_⟩
    rw[zO,e1,← zO,YI]
    exact hq.2
   ·cases dr
 exact fun q hq=>key q.length q rfl hq
theorem iI.sub{g:ae→List ae}{a:ae}{k:Nat}{P:List (List ae)}{S:List ae}(h:iI g a k P S){N:List ae}(hN:∀ x y,y∈g x→y∈N)(hd:∀ x∈S,∃ y,x∈g y):S.length≤N.length:=
 gn h.d fun x hx=>by obtain⟨y,hy⟩:=hd x hx;exact hN y x hy
structure kZ(g:ae→List ae)(b:ae)(d:ae→Nat):Prop where
 r:∀ x,d x<1000→eC g (d x) x b
 l:∀ k x,eC g k x b→d x≤k
theorem Fo{p:ae→Bool}:∀ {l:List ae} {x:ae},bg l→l.find? p=some x→∀ y∈l,p y=true→y=x∨ct x y=true
 |a::l,x,hs,h,y,hy,hp=>by
  have pS:=Yh.1 hs
  rw[List.find?_cons]at h
  split at h
  ·cases h
   rcases ZQ.1 hy with rfl|hy
   ·exact .inl rfl
   ·exact .inr (pS.1 y hy)
  ·rename_i hn
   rcases ZQ.1 hy with rfl|hy
   ·rw[hn]at hp;cases hp
   ·exact Fo pS.2 h y hy hp
inductive jd(g:ae→List ae)(d:ae→Nat):Nat→ae→List ae→Prop
 |nil {a:ae}:jd g d 0 a []
 |cons {n:Nat} {a b:ae} {l:List ae} (h:(g a).find? (fun x=>decide (d x=n+1))=some b) (t:jd g d n b l):jd g d (n+1) a (b::l)
theorem jd.len{g:ae→List ae}{d:ae→Nat}{n:Nat}{a:ae}{l:List ae}(h:jd g d n a l):l.length=n:=by
 induction h with
 |nil=>rfl
 |cons _ _ ih=>simp[ih]
theorem jd.PI{g:ae→List ae}{b:ae}{d:ae→Nat}(hd:kZ g b d){n:Nat}{a:ae}{l:List ae}(h:jd g d n a l)(ha:d a=n+1)(h1:d a<1000):c6 g a l∧b∈g (bh a l):=by
 induction h with
 |nil=>
  refine⟨trivial,?_⟩
  have:=hd.r _ h1
  rw[ha]at this
  cases this with
  |one h=>exact h
  |cons _ t=>exact absurd t.pos (by omega)
 |cons h _ ih=>
  have h2:=X3 h
  have h3:=XN h
  have h2:=Yq h2
  obtain⟨h4,h5⟩:=ih h2 (by omega)
  exact⟨⟨h3,h4⟩,h5⟩
theorem jd.qU{g:ae→List ae}(hg:∀ n,bg (g n)){b:ae}{d:ae→Nat}(hd:kZ g b d){n:Nat}{a:ae}{l:List ae}(h:jd g d n a l)(ha:d a=n+1)(h1:d a<1000):
  ∀ m,c6 g a m→b∈g (bh a m)→m.length=n→m=l∨lx l m:=by
 induction h with
 |nil=>intro m _ _ hl;exact .inl (ZM hl)
 | @cons n a c l h t ih=>
  intro m hm hb hl
  cases m with
  |nil=>simp at hl
  |cons x m=>
   have h2:d c=n+1:=by have:=X3 h;exact Yq this
   have h3:=hd.l _ _ (c6.um hm.2 hb)
   have fj:m.length=n:=by simpa using hl
   have h4:n+1≤d x:=by
    rcases YF (d x) (n+1)with ax|tw
    ·have:=hd.l _ _ (eC.cons hm.1 (hd.r x (by omega)))
     omega
    ·exact tw
   have h5:d x=n+1:=by omega
   rcases Fo (hg a) h x hm.1 (by simp[h5])with rfl|h6
   ·rcases ih h2 (by omega) m hm.2 hb fj with rfl|h7
    ·exact .inl rfl
    ·exact .inr (.inr ⟨rfl,h7⟩)
   ·exact .inr (.inl h6)
theorem jd.N6{g:ae→List ae}(hg:∀ n,bg (g n)){b:ae}{d:ae→Nat}(hd:kZ g b d){n:Nat}{l:List ae}(h:jd g d n b l)(ha:d b=n+1)(h1:d b<1000):me g b l:=by
 have hl:=h.len
 refine⟨h.PI hd ha h1,fun m hm=> ?_,fun m hm e=>h.qU hg hd ha h1 m hm.1 hm.2 (by omega)⟩
 have:=hd.l _ _ (c6.um hm.1 hm.2)
 omega
theorem kZ.next{g:ae→List ae}{b:ae}{d:ae→Nat}(hd:kZ g b d){n:Nat}{a:ae}(ha:d a=n+2)(h1:d a<1000):∃ c,(g a).find? (fun x=>decide (d x=n+1))=some c:=by
 have h2:=hd.r a h1
 rw[ha]at h2
 cases h2 with
 |cons h t=>
  rename_i c
  have h3:=hd.l _ _ t
  have h4:n+1≤d c:=by
   rcases YF (d c) (n+1)with ax|tw
   ·have:=hd.l _ _ (eC.cons h (hd.r c (by omega)))
    omega
   ·exact tw
  cases h5:(g a).find? (fun x=>decide (d x=n+1))with
  |some c=>exact⟨c,rfl⟩
  |none=>
   have:=XG.1 h5 c h
   exact absurd (by simp;omega) this
def jt(fs:List aj)(n:ae):Bool:=(findF fs n).isSome
theorem CB{fs:List aj}{n:ae}:jt fs n=true↔∃ f∈fs,f.name=n:=by
 unfold jt findF
 rw[List.find?_isSome]
 simp
def jx:List aj→List ae→List ae
 |[],l=>l
 |f::fs,l=>jx fs (cZ l f.name)
theorem PO{x:ae}:∀ {fs:List aj} {l:List ae},x∈jx fs l↔(∃ f∈fs,f.name=x)∨x∈l
 |[],l=>by simp[jx]
 |f::fs,l=>by
  rw[jx,PO (fs:=fs),ud]
  simp only[ZQ,exists_eq_or_imp]
  grind
theorem PQ:∀ {fs:List aj} {l:List ae},bg l→bg (jx fs l)
 |[],_,h=>h
 |_::fs,_,h=>PQ (fs:=fs) (wG h)
theorem o5:bg []:=List.Pairwise.nil
def aQ(fs:List aj):List ae:=jx fs []
theorem zR(fs:List aj):bg (aQ fs):=PQ o5
theorem oX{fs:List aj}{n:ae}:n∈aQ fs↔jt fs n=true:=by
 rw[CB];unfold aQ;rw[PO];simp
theorem Ig:∀ (fs:List aj) (l:List ae),(jx fs l).length≤l.length+fs.length
 |[],l=>ZR _
 |f::fs,l=>by
  have h1:=Ig fs (cZ l f.name)
  have h2:∀ (l:List ae) (s:ae),(cZ l s).length≤l.length+1:=fun l s=>by
   induction l with
   |nil=>simp[cZ]
   |cons a l ih=>
    unfold cZ
    split
    ·simp only[Z8];omega
    ·split
     ·simp
     ·simp
  have h3:=h2 l f.name
  rw[jx,Z8];omega
theorem wu(fs:List aj):(aQ fs).length≤fs.length:=by have:=Ig fs [];simpa[aQ]using this
def ml(x:Ex):List ae:=(fI x ([],[])).1
def Li(x:Ex):List ae:=(fI x ([],[])).2
theorem Lb{x:Ex}{s:ae}:s∈ml x↔s∈x.aR:=by rw[ml,(Bv x ([],[])).1];simp
theorem Lc(x:Ex):bg (ml x):=(Bw x ([],[]) o5 o5).1
def deps(fs:List aj)(n:ae):List ae:=match findF fs n with
 |some f=>(ml f.body).filter (jt fs)
 |none=>[]
theorem aLI{l:List ae}{p:ae→Bool}(h:bg l):bg (l.filter p):=List.Pairwise.filter _ h
theorem Bp(fs:List aj)(n:ae):bg (deps fs n):=by
 unfold deps;split
 ·exact aLI (Lc _)
 ·exact o5
theorem EW{fs:List aj}{n m:ae}:m∈deps fs n↔∃ f,findF fs n=some f∧m∈f.body.aR∧jt fs m=true:=by
 unfold deps
 split
 ·rename_i f h
  rw[Zh,Lb]
  constructor
  ·intro h1;exact⟨f,h,h1⟩
  ·rintro⟨f',h1,h2⟩;rw[h]at h1;cases h1;exact h2
 ·rename_i h
  constructor
  ·intro h1;cases h1
  ·rintro⟨f',h1,h2⟩;rw[h]at h1;cases h1
theorem vf{fs:List aj}{n m:ae}(h:m∈deps fs n):m∈aQ fs:=by
 obtain⟨_,_,_,h⟩:=EW.1 h;exact oX.2 h
theorem aau{fs:List aj}{n m:ae}(h:m∈deps fs n):n∈aQ fs:=by
 obtain⟨_,h,_⟩:=EW.1 h;exact oX.2 (by unfold jt;rw[h];rfl)
def ready(g:ae→List ae)(out:List ae)(n:ae):Bool:=decide (n∉out) && (g n).all fun m=>decide (m∈out)
def j8(g:ae→List ae)(N out:List ae):Option ae:=N.find? (ready g out)
def ub(g:ae→List ae)(N:List ae):Nat→List ae→List ae
 |0,out=>out
 |k+1,out=>match j8 g N out with
  |some n=>ub g N k (out++[n])
  |none=>out
def nL(g:ae→List ae)(N:List ae):List ae:=ub g N N.length []
structure je(g:ae→List ae)(N out:List ae):Prop where
 d:out.Nodup
 s:∀ x∈out,x∈N
 e:nL g N=ub g N (N.length-out.length) out
 b:∀ i (hi:i<out.length),∀ m∈g out[i],m∈out.take i
theorem je.start(g:ae→List ae)(N:List ae):je g N []:=⟨.nil,fun x h=>(by cases h),rfl,fun i hi=>absurd hi (by simp)⟩
theorem Im{g:ae→List ae}{out:List ae}{n:ae}:ready g out n=true↔n∉out∧∀ m∈g n,m∈out:=by
 unfold ready;simp
theorem je.len{g:ae→List ae}{N out:List ae}(h:je g N out):out.length≤N.length:=gn h.d h.s
theorem je.step{g:ae→List ae}{N out:List ae}{n:ae}(h:je g N out)(hn:j8 g N out=some n):je g N (out++[n])∧out.length<N.length:=by
 have h1:=XN hn
 obtain⟨h2,h3⟩:=Im.1 (X3 hn)
 have hd:(out++[n]).Nodup:=XA.2 ⟨h.d,by simp,fun x hx y hy e=>by rw[Zq]at hy;subst hy;subst e;exact h2 hx⟩
 have hs:∀ x∈out++[n],x∈N:=fun x hx=>by
  rcases ZI.1 hx with hx|hx
  ·exact h.s x hx
  ·rw[Zq]at hx;subst hx;exact h1
 have hl:=gn hd hs
 rw[Z9,Zg]at hl
 refine⟨⟨hd,hs,?_,fun i hi m hm=> ?_⟩,hl⟩
 ·rw[h.e,show N.length-out.length=(N.length-(out++[n]).length)+1 by rw[Z9,Zg];omega,ub,hn]
 ·by_cases iV:i<out.length
  ·rw[Y4 iV]at hm
   rw[YS (by omega)]
   exact h.b i iV m hm
  ·have e:i=out.length:=by simp at hi;omega
   subst e
   rw[Y8 (by omega)]at hm
   simp at hm
   rw[List.take_left]
   exact h3 m hm
theorem je.done{g:ae→List ae}{N out:List ae}(h:je g N out)(hn:j8 g N out=none):out=nL g N:=by
 rw[h.e]
 cases hk:N.length-out.length with
 |zero=>rfl
 |succ k=>rw[ub,hn]
theorem je.end_{g:ae→List ae}{N:List ae}:∃ out,je g N out∧j8 g N out=none:=by
 have key:∀ k out,je g N out→N.length-out.length≤k→∃ out,je g N out∧j8 g N out=none:=by
  intro k
  induction k with
  |zero=>
   intro out h hk
   refine⟨out,h,?_⟩
   cases hn:j8 g N out with
   |none=>rfl
   |some n=>have:=(h.step hn).2;omega
  |succ k ih=>
   intro out h hk
   cases hn:j8 g N out with
   |none=>exact⟨out,h,hn⟩
   |some n=>
    obtain⟨h1,h2⟩:=h.step hn
    exact ih _ h1 (by rw[Z9,Zg];omega)
 exact key _ [] (je.start g N) (ZR _)
def qO(g:ae→List ae)(N l:List ae):Prop:=
 (l=[]∧∀ a∈N,∀ q,¬fb g a q)∨∃ a q,l=a::q∧a∈N∧me g a q∧(∀ b∈N,ct b a=true→∀ m,fb g b m→q.length<m.length)∧∀ b∈N,∀ m,fb g b m→q.length≤m.length
theorem qO.uniq{g:ae→List ae}{N l l':List ae}(h:qO g N l)(k:qO g N l'):l=l':=by
 rcases h with⟨rfl,h⟩|⟨a,q,rfl,ha,hb,h1,h2⟩<;>rcases k with⟨rfl,k⟩|⟨b,m,rfl,kb,kc,k1,k2⟩
 ·rfl
 ·exact absurd kc.c (h b kb m)
 ·exact absurd hb.c (k a ha q)
 ·have e:a=b:=by
   by_cases e1:ct a b=true
   ·have:=k1 a ha e1 q hb.c
    have:=h2 b kb m kc.c
    omega
   ·by_cases e2:ct b a=true
    ·have:=h1 b kb e2 m kc.c
     have:=k2 a ha q hb.c
     omega
    ·exact Ql (by simpa using e1) (by simpa using e2)
  subst e
  rw[hb.uniq kc]
open Classical in
noncomputable def gM(g:ae→List ae)(N:List ae):List ae:=if h:∃ l,qO g N l then h.choose else[]
theorem u9{g:ae→List ae}{N l:List ae}(h:qO g N l):gM g N=l:=by
 have h':∃ l,qO g N l:=⟨l,h⟩
 unfold gM;rw[dif_pos h']
 exact h'.choose_spec.uniq h
def jb(g:ae→List ae)(N:List ae)(i:Nat)(l:List ae):Prop:=
 (l=[]∧∀ j (hj:j<N.length),j<i→∀ q,¬fb g N[j] q)∨
  ∃ (k:Nat) (hk:k<N.length) (q:List ae),k<i∧l=N[k]::q∧me g N[k] q∧(∀ j (hj:j<N.length),j<k→∀ m,fb g N[j] m→q.length<m.length)∧∀ j (hj:j<N.length),j<i→∀ m,fb g N[j] m→q.length≤m.length
theorem jb.start(g:ae→List ae)(N:List ae):jb g N 0 []:= .inl ⟨rfl,fun j _ h=>absurd h (by omega)⟩
theorem jb.none{g:ae→List ae}{N l:List ae}{i:Nat}(h:jb g N i l)(hi:i<N.length)(hn:∀ q,¬fb g N[i] q):jb g N (i+1) l:=by
 rcases h with⟨rfl,h⟩|⟨k,hk,q,h1,rfl,h2,h3,h4⟩
 ·refine .inl ⟨rfl,fun j hj ax q=> ?_⟩
  rcases Yv (Yp ax)with h5|rfl
  ·exact h j hj h5 q
  ·exact hn q
 ·refine .inr ⟨k,hk,q,by omega,rfl,h2,h3,fun j hj ax m hm=> ?_⟩
  rcases Yv (Yp ax)with h5|rfl
  ·exact h4 j hj h5 m hm
  ·exact absurd hm (hn m)
theorem jb.skip{g:ae→List ae}{N l p:List ae}{i:Nat}(h:jb g N i l)(hi:i<N.length)(hb:me g N[i] p)(hl:l≠[])(hle:l.length≤p.length+1):jb g N (i+1) l:=by
 rcases h with⟨rfl,h⟩|⟨k,hk,q,h1,rfl,h2,h3,h4⟩
 ·exact absurd rfl hl
 ·refine .inr ⟨k,hk,q,by omega,rfl,h2,h3,fun j hj ax m hm=> ?_⟩
  rcases Yv (Yp ax)with h5|rfl
  ·exact h4 j hj h5 m hm
  ·have:=hb.s m hm
   simp only[Z8]at hle
   omega
theorem jb.take{g:ae→List ae}{N l p:List ae}{i:Nat}(h:jb g N i l)(hi:i<N.length)(hb:me g N[i] p)(ax:l=[]∨p.length+1<l.length):jb g N (i+1) (N[i]::p):=by
 refine .inr ⟨i,hi,p,by omega,rfl,hb,fun j hj jP m hm=> ?_,fun j hj jP m hm=> ?_⟩
 ·rcases h with⟨rfl,h⟩|⟨k,hk,q,h1,rfl,h2,h3,h4⟩
  ·exact absurd hm (h j hj jP m)
  ·have:=h4 j hj jP m hm
   rcases ax with e|e
   ·cases e
   ·simp only[Z8]at e;omega
 ·rcases Yv (Yp jP)with h5|rfl
  ·rcases h with⟨rfl,h⟩|⟨k,hk,q,h1,rfl,h2,h3,h4⟩
   ·exact absurd hm (h j hj h5 m)
   ·have:=h4 j hj h5 m hm
    rcases ax with e|e
    ·cases e
    ·simp only[Z8]at e;omega
  ·exact hb.s m hm
theorem jb.done{g:ae→List ae}{N l:List ae}(hN:bg N)(h:jb g N N.length l):l=gM g N:=by
 refine(u9 ?_).symm
 have lt:∀ (k:Nat) (hk:k<N.length) (j:Nat) (hj:j<N.length),ct N[j] N[k]=true→j<k:=fun k hk j hj h=>by
  rcases YF j k with h1|h1
  ·exact h1
  ·rcases XH h1 with rfl|h2
   ·rw[rP]at h;cases h
   ·have:=YL.1 hN k j hk hj h2
    rw[Dm this]at h;cases h
 rcases h with⟨rfl,h⟩|⟨k,hk,q,h1,rfl,h2,h3,h4⟩
 ·refine .inl ⟨rfl,fun a ha q=> ?_⟩
  obtain⟨j,hj,rfl⟩:=Zj ha
  exact h j hj hj q
 ·refine .inr ⟨_,q,rfl,Zf _,h2,fun b hb ax m hm=> ?_,fun b hb m hm=> ?_⟩
  ·obtain⟨j,hj,rfl⟩:=Zj hb
   exact h3 j hj (lt k hk j hj ax) m hm
  ·obtain⟨j,hj,rfl⟩:=Zj hb
   exact h4 j hj hj m hm
end Go.Proofs.YtomhopcnkicknaaGreatDoor
