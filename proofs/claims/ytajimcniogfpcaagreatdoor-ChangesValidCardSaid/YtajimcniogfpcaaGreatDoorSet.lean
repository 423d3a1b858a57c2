/- Maps keyed by names, in the walk's words: which names stand there, and what stands at each; slices of names. -/
import Derived.Maps.OwnSet
import Derived.Maps.OwnOps
import Derived.Maps.RangeWalk
import Derived.Sort.MapsRangeIn
import Derived.Sort.KeysCollected
import Derived.Carry
import Derived.OwnWalk
import Derived.Maps.AppendAt
import Derived.WalkKit
import Derived.Test.YtajimcniogfpcaaGreatDoorPt
set_option linter.unusedSimpArgs false
set_option linter.unusedVariables false
set_option linter.unusedSectionVars false
namespace Go.Tb
open Go.Maps Go.RowKit
open Go.Proofs (encStr)
instance (s:ByteArray)(L:List ByteArray):Decidable (s∈L):= @List.instDecidableMemOfLawfulBEq _ instBEqOfDecidableEq inferInstance s L
def ky(s:ByteArray):Lit:= .string s.data.toList
theorem zY(s:ByteArray):WideAt.IsKeyLit (ky s):=trivial
theorem abN{a b:ByteArray}(h:a.data.toList=b.data.toList):a=b:=by
 cases a;cases b;simp only[ByteArray.mk.injEq];exact Array.toList_inj.1 h
theorem SA{a b:ByteArray}(h:ky a=ky b):a=b:=abN (by simpa[ky]using h)
theorem Lh{a b:ByteArray}(h:a≠b):ky a≠ky b:=fun e=>h (SA e)
def dC(w:World)(P:Program)(k:TypeId)(R:Value→Option (DataW Unit×List MemPlace))(b:Nat)(L:List ByteArray)(f:ByteArray→DataW Unit):Prop:=
 L.Nodup∧(∀ s∈L,s.size≤maxLen)∧∃ D,w.ownsMap P k R b L.length D∧(∀ s,s.size≤maxLen→has D (ky s)=decide (s∈L))∧∀ s∈L,∀ z,D.atKey (ky s) z=f s
def ins(L:List ByteArray)(s:ByteArray):List ByteArray:=if s∈L then L else L++[s]
theorem qA{L:List ByteArray}{s x:ByteArray}:x∈ins L s↔x=s∨x∈L:=by
 unfold ins
 split
 ·rename_i h;constructor
  ·exact .inr
  ·rintro(rfl|h');exact h;exact h'
 ·simp[or_comm]
theorem RI{L:List ByteArray}{s:ByteArray}(h:L.Nodup):(ins L s).Nodup:=by
 unfold ins
 split
 ·exact h
 ·rename_i hn
  exact Yd.2 ⟨h,by simp,fun a ha b hb e=>by rw[Zm]at hb;subst hb;subst e;exact hn ha⟩
theorem afx(L:List ByteArray)(s:ByteArray):(ins L s).length≤L.length+1:=by unfold ins;split<;>simp
def eJ(L:List ByteArray)(l:List ByteArray):List ByteArray:=l.foldl ins L
theorem CJ{x:ByteArray}:∀ {l L:List ByteArray},x∈eJ L l↔x∈l∨x∈L
 |[],L=>by simp[eJ]
 |s::l,L=>by
  rw[show eJ L (s::l)=eJ (ins L s) l from rfl,CJ (l:=l),qA,ZT];grind
theorem RD:∀ {l L:List ByteArray},L.Nodup→(eJ L l).Nodup
 |[],L,h=>h
 |s::l,L,h=>RD (l:=l) (RI h)
theorem Fe:∀ (l L:List ByteArray),(eJ L l).length≤L.length+l.length
 |[],L=>ZM _
 |s::l,L=>by
  have h1:=Fe l (ins L s)
  have h2:=afx L s
  simp only[Z8]
  exact ZG h1 (by omega)
theorem RB(L a b:List ByteArray):eJ L (a++b)=eJ (eJ L a) b:=List.foldl_append
section
variable {P:Program}{k:TypeId}{R:Value→Option (DataW Unit×List MemPlace)}{w:World}{b:Nat}{L:List ByteArray}{f:ByteArray→DataW Unit}
theorem dC.lt(h:dC w P k R b L f):b<w.heap.size:=let⟨_,_,_,h,_⟩:=h;h.lt
theorem dC.isMap(h:dC w P k R b L f):∃ es c,w.heap[b]? =some (.map es c):=by
 obtain⟨_,_,D,⟨es,c,h,_⟩,_⟩:=h;exact⟨es,c,h⟩
theorem Vk(w:World)(P:Program)(k:TypeId)(R:Value→Option (DataW Unit×List MemPlace))(f:ByteArray→DataW Unit):dC (w.alloc (.map #[] 0)) P k R w.heap.size [] f:=
 ⟨Xn,(fun s h=>nomatch h),_,World.ownsMap_made w P k R,(fun s _=>by simp[has]),(fun s h=>nomatch h)⟩
theorem dC.kept{w':World}{row:Option Nat}(h:dC w P k R b L f)(hg:w.grownBy w' row)(aH:some b≠row):dC w' P k R b L f:=by
 obtain⟨h1,h2,D,h3,h4,h5⟩:=h;exact⟨h1,h2,D,h3.kept hg aH,h4,h5⟩
theorem dC.alloc(h:dC w P k R b L f)(o:Obj):dC (w.alloc o) P k R b L f:=h.kept (World.grownBy_alloc w o none) (by simp)
theorem dC.block{w':World}(h:dC w P k R b L f)(hb:w'.heap[b]? =w.heap[b]?):dC w' P k R b L f:=by
 obtain⟨h1,h2,D,⟨es,c,h3,h6⟩,h4,h5⟩:=h;exact⟨h1,h2,D,⟨es,c,hb.trans h3,h6⟩,h4,h5⟩
theorem dC.congr{f':ByteArray→DataW Unit}(h:dC w P k R b L f)(hf:∀ s∈L,f s=f' s):dC w P k R b L f':=by
 obtain⟨h1,h2,D,h3,h4,h5⟩:=h;exact⟨h1,h2,D,h3,h4,fun s hs z=>(h5 s hs z).trans (hf s hs)⟩
theorem dC.store{w':World}{s:ByteArray}{D:DataW Unit}{d:DataW Unit}(h1:L.Nodup)(h2:∀ s∈L,s.size≤maxLen)(hm:IsMap D)(h4:∀ s,s.size≤maxLen→has D (ky s)=decide (s∈L))(h5:∀ s∈L,∀ z,D.atKey (ky s) z=f s)
  (hs:s.size≤maxLen) (h:w'.ownsMap P k R b (L.length+1) (D.put (ky s) d)) (K:Keyed P k) (hT:Tidy D) (hn:size D≤L.length):dC w' P k R b (ins L s) (fun x=>if x=s then d else f x):=by
 have hz:size (D.put (ky s) d)≤(ins L s).length:=by
  rw[size_put hT,h4 s hs]
  unfold ins
  by_cases hm:s∈L
  ·simpa[hm]using hn
  ·simpa[hm]using hn
 refine⟨RI h1,fun x hx=> ?_,D.put (ky s) d,?_,fun x hx=> ?_,fun x hx z=> ?_⟩
 ·rcases qA.1 hx with rfl|hx
  ·exact hs
  ·exact h2 x hx
 ·obtain⟨es,c,a1,a2,a3,a4⟩:=h
  refine⟨es,c,a1,a2,?_,a4⟩
  have e:size (D.put (ky s) d)=es.size:=by rw[a4,size_eq,length_read]
  omega
 ·by_cases e:x=s
  ·subst e
   rw[has_put_same hm (zY _)]
   simp[qA]
  ·rw[has_put_other (Lh e),h4 x hx]
   simp[qA,e]
 ·by_cases e:x=s
  ·subst e
   rw[atKey_put_same hm (zY _)];exact(ZW rfl).symm
  ·rw[atKey_put_other (Lh e)]
   rcases qA.1 hx with hx|hx
   ·exact absurd hx e
   ·exact(h5 x hx z).trans (Z5 e).symm
end
section
variable {P:Program}{k:TypeId}(hk:P.underlying k=some .string)
variable {ops:Array Oper}{rest:List Oper}{o:Oper}{a:Act}{Q:Exit→Act→World→Prop}
theorem Wa(w:World)(hg:o.guard=none)(m x v:Operand)(t:TypeId)(dL:o.op=Op.mapUpdate t m x v)(hk:P.underlying k=some .string)(e:TypeId)(ht:P.underlying t=some (.map k e))
  (R:Value→Option (DataW Unit×List MemPlace)) (b:Nat) (L:List ByteArray) (f:ByteArray→DataW Unit) (hm:a.eval m= .map (some b)) (h:dC w P k R b L f) (hn:L.length<maxLen) (s:ByteArray) (hx:a.eval x= .string s) (hs:s.size≤maxLen)
  (val:Value) (hv:a.eval v=val) (d:DataW Unit) (ps:List MemPlace) (hd:R val=some (d,ps))
  (hK:∀ w',dC w' P k R b (ins L s) (fun x=>if x=s then d else f x)→w.grownBy w' (some b)→wpList P ops Q rest (a.put o.dst undef) w'):wpList P ops Q (o::rest) a w:=by
 obtain⟨h1,h2,D,h3,h4,h5⟩:=h
 refine wpList_mapUpdate_own w hg m x v t dL k e (string_keyed hk) ht R b L.length D hm h3 hn _ val (ky s) hx hv (WideMaps.keyOf_string_mk hk hs) d ps hd fun w' hw lT=>hK w' ?_ lT
 exact dC.store h1 h2 h3.isMap h4 h5 hs hw (string_keyed hk) (h3.tidy (string_keyed hk)) h3.size_le
theorem V7(w:World)(hg:o.guard=none)(m x:Operand)(t:TypeId)(dL:o.op=Op.lookup t m x false)(hk:P.underlying k=some .string)(e:TypeId)(ht:P.underlying t=some (.map k e))
  (R:Value→Option (DataW Unit×List MemPlace)) (z:Value) (hz:(zeroValue e).run P w= .ok z w) (zd:DataW Unit) (zp:List MemPlace) (hzd:R z=some (zd,zp))
  (b:Nat) (L:List ByteArray) (f:ByteArray→DataW Unit) (hm:a.eval m= .map (some b)) (h:dC w P k R b L f) (s:ByteArray) (hx:a.eval x= .string s) (hs:s.size≤maxLen)
  (val:Value) (hval:∀ v ps,R v=some (if s∈L then f s else zd,ps)→v=val)
  (hK:wpList P ops Q rest (a.put o.dst val) w):wpList P ops Q (o::rest) a w:=by
 obtain⟨h1,h2,D,h3,h4,h5⟩:=h
 refine wpList_plain hg fun K' uw=> ?_
 obtain⟨v,ps,cY,lg⟩:=h3.lookup (string_keyed hk) ht hz hzd (WideMaps.keyOf_string_mk hk hs)
 have e1:v=val:=by
  refine hval v ps ?_
  rw[lg]
  by_cases fi:s∈L
  ·rw[ZW fi]
   exact Ze (fun d=>some (d,ps)) (h5 s fi zd)
  ·rw[Z5 fi]
   have h6:has D (ky s)=false:=by rw[h4 s hs];simp[fi]
   exact Ze (fun d=>some (d,ps)) (atKey_of_not_has h6 zd)
 subst e1
 unfold Oper.wp
 have ae0:(Instr.lookup t (Value.map (some b)) (Value.string s) false).run P w= .ok v w:=cY
 simp[execOp,dL,hm,hx,ae0,Result.andThen]
 exact uw _ _ hK
def fM(w:World)(P:Program)(k:TypeId)(R:Value→Option (DataW Unit×List MemPlace))(b r:Nat)(L:List ByteArray)(f:ByteArray→DataW Unit)(left:ByteArray→Prop)(bu:Nat):Prop:=
 L.Nodup∧(∀ s∈L,s.size≤maxLen)∧∃ D lf,w.ranges P k R b r L.length D lf bu∧(∀ s,s.size≤maxLen→has D (ky s)=decide (s∈L))∧(∀ s∈L,∀ z,D.atKey (ky s) z=f s)∧∀ s,s.size≤maxLen→(lf (ky s)=true↔left s)
theorem fM.dC{w:World}{R:Value→Option (DataW Unit×List MemPlace)}{b r:Nat}{L:List ByteArray}{f:ByteArray→DataW Unit}{left:ByteArray→Prop}{bu:Nat}(h:fM w P k R b r L f left bu):dC w P k R b L f:=by
 obtain⟨h1,h2,D,lf,h3,h4,h5,_⟩:=h;exact⟨h1,h2,D,h3.owns,h4,h5⟩
theorem fM.left_eq{w:World}{R:Value→Option (DataW Unit×List MemPlace)}{b r:Nat}{L:List ByteArray}{f:ByteArray→DataW Unit}{left:ByteArray→Prop}{bu:Nat}(h:fM w P k R b r L f left bu):w.rangeLeft b r=bu:=by
 obtain⟨h1,h2,D,lf,h3,_⟩:=h;exact h3.left_eq
theorem fM.kept{w w':World}{R:Value→Option (DataW Unit×List MemPlace)}{b r:Nat}{L:List ByteArray}{f:ByteArray→DataW Unit}{left:ByteArray→Prop}{bu:Nat}{row:Option Nat}(h:fM w P k R b r L f left bu)(hg:w.grownBy w' row)(hb:some b≠row)(hr:some r≠row):fM w' P k R b r L f left bu:=by
 obtain⟨h1,h2,D,lf,h3,h4,h5,h6⟩:=h;exact⟨h1,h2,D,lf,h3.kept hg hb hr,h4,h5,h6⟩
theorem fM.iter{w:World}{R:Value→Option (DataW Unit×List MemPlace)}{b r:Nat}{L:List ByteArray}{f:ByteArray→DataW Unit}{left:ByteArray→Prop}{bu:Nat}(h:fM w P k R b r L f left bu):∃ x y z u,w.heap[r]? =some (.mapIter x y z u):=by
 obtain⟨h1,h2,D,lf,⟨es,clock,since,seen,c0,_,_,_,_,h3,_⟩,_⟩:=h;exact⟨_,_,_,_,h3⟩
theorem V9(w:World)(hg:o.guard=none)(m:Operand)(t:TypeId)(dL:o.op=Op.range t m)(hk:P.underlying k=some .string)(e:TypeId)(ht:P.underlying t=some (.map k e))
  (R:Value→Option (DataW Unit×List MemPlace)) (b:Nat) (L:List ByteArray) (f:ByteArray→DataW Unit) (hm:a.eval m= .map (some b)) (h:dC w P k R b L f)
  (hK:∀ w' bu,fM w' P k R b w.heap.size L f (·∈L) bu→w.grownBy w' none→w'.heap.size=w.heap.size+1→wpList P ops Q rest (a.put o.dst (.pointer (some ⟨w.heap.size,0,none⟩))) w'):wpList P ops Q (o::rest) a w:=by
 obtain⟨h1,h2,D,h3,h4,h5⟩:=h
 exact wpList_range_own w hg m t dL k e (string_keyed hk) ht R b L.length D hm h3 fun w' hr lT aY=>hK w' _ ⟨h1,h2,D,_,hr,h4,h5,fun s hs=>by rw[h4 s hs];simp⟩ lT aY
theorem V8(w:World)(hg:o.guard=none)(it:Operand)(dL:o.op=Op.next it false)(hk:P.underlying k=some .string)(R:Value→Option (DataW Unit×List MemPlace))(FA:ByteArray→Value)
  (b r:Nat) (L:List ByteArray) (f:ByteArray→DataW Unit) (afA:∀ s∈L,∀ v ps,R v=some (f s,ps)→v=FA s) (left:ByteArray→Prop) (bu:Nat)
  (hit:a.eval it= .pointer (some ⟨r,0,none⟩)) (h:fM w P k R b r L f left bu)
  (aem:(∀ s,s.size≤maxLen→¬left s)→wpList P ops Q rest (a.put o.dst (.tuple #[.bool false])) w)
  (aes:∀ (s:ByteArray) (w':World) (fS:Nat),s∈L→left s→fM w' P k R b r L f (fun x=>left x∧x≠s) fS→fS<bu→w.grownBy w' (some r)→w'.heap.size=w.heap.size→
   (Instr.entry (.pointer (some ⟨r,0,none⟩))).run P w'= .ok (.tuple #[.string s,FA s]) w'→wpList P ops Q rest (a.put o.dst (.tuple #[.bool true,.string s,FA s])) w'):
  wpList P ops Q (o::rest) a w:=by
 obtain⟨h1,h2,D,lf,h3,h4,h5,h6⟩:=h
 refine wpList_plain hg fun K' uw=> ?_
 unfold Oper.wp
 rcases h3.next (string_keyed hk) o.type with⟨h0,hl,cY⟩|⟨key,v,kl,y,w',fS,Cn,Cp,hv,lg,cY,xn,ar,lT,aY,uG⟩
 ·simp[execOp,dL,hit,cY,Result.andThen]
  exact uw _ _ (aem fun s hs fJ=>by have:=(h6 s hs).2 fJ;rw[hl]at this;cases this)
 ·obtain⟨x,rfl,rfl,hx⟩:=Maps.keyOf_str hk Cn
  obtain⟨s,hs⟩:∃ s:ByteArray,s.data.toList=x:=⟨⟨x.toArray⟩,by simp⟩
  subst hs
  have lY:s.size≤maxLen:=by rw[Zv]at hx;exact hx
  have fi:s∈L:=by
   have e1:has D (ky s)=true:=has_true_of_atKey lg
   rw[h4 s lY]at e1
   simpa using e1
  have hval:v=FA s:=by
   refine afA s fi v y.2 ?_
   rw[hv,← h5 s fi (f s)]
   exact Ze some (Prod.ext (lg (f s)).symm rfl)
  have Ka:encStr s.data.toList= .string s:=by simp[encStr]
  rw[Ka]at cY uG
  subst hval
  simp[execOp,dL,hit,cY,Result.andThen]
  refine uw _ _ (aes s w' fS fi ((h6 s lY).1 Cp) ⟨h1,h2,D,_,xn,h4,h5,fun x qx=> ?_⟩ ar lT aY uG)
  rw[Z6,h6 x qx]
  refine and_congr_right fun _=> ?_
  by_cases e:x=s
  ·subst e
   have e2:=WideAt.sameKey_self (zY x)
   have e3:(ky x).sameKey (Lit.string x.data.toList)=true:=e2
   simp[e3]
  ·have e2:=sameKey_ne (Lh e)
   have e3:(ky x).sameKey (Lit.string s.data.toList)=false:=e2
   simp[e3,e]
end
abbrev tt:DataW Unit:= .lit (.bool true)
def set(w:World)(P:Program)(k e:TypeId)(b:Nat)(L:List ByteArray):Prop:=dC w P k (plainElem P e) b L fun _=>tt
theorem Is{P:Program}{e:TypeId}(he:P.underlying e=some .bool){v:Value}{c:Bool}{ps:List MemPlace}(h:plainElem (H:=Unit) P e v=some (.lit (.bool c),ps)):v= .bool c:=by
 unfold plainElem at h
 rw[he]at h
 cases v<;>simp at h
 rw[h.1]
section
variable {P:Program}{k e:TypeId}{ops:Array Oper}{rest:List Oper}{o:Oper}{a:Act}{Q:Exit→Act→World→Prop}
theorem Da(w:World)(P:Program)(k e:TypeId):set (w.alloc (.map #[] 0)) P k e w.heap.size []:=Vk w P k _ _
theorem G6(w:World)(hg:o.guard=none)(m x v:Operand)(t:TypeId)(dL:o.op=Op.mapUpdate t m x v)(hk:P.underlying k=some .string)(he:P.underlying e=some .bool)(ht:P.underlying t=some (.map k e))
  (b:Nat) (L:List ByteArray) (hm:a.eval m= .map (some b)) (h:set w P k e b L) (hn:L.length<maxLen) (s:ByteArray) (hx:a.eval x= .string s) (hs:s.size≤maxLen) (hv:a.eval v= .bool true)
  (hK:∀ w',set w' P k e b (ins L s)→w.grownBy w' (some b)→wpList P ops Q rest (a.put o.dst undef) w'):wpList P ops Q (o::rest) a w:=
 Wa w hg m x v t dL hk e ht _ b L _ hm h hn s hx hs _ hv tt [] (plainElem_bool he true) fun w' hw lT=>hK w' (hw.congr fun x _=>by split<;>rfl) lT
theorem AU(w:World)(hg:o.guard=none)(m x:Operand)(t:TypeId)(dL:o.op=Op.lookup t m x false)(hk:P.underlying k=some .string)(he:P.underlying e=some .bool)(ht:P.underlying t=some (.map k e))
  (hz:(zeroValue e).run P w= .ok (.bool false) w) (b:Nat) (L:List ByteArray) (hm:a.eval m= .map (some b)) (h:set w P k e b L) (s:ByteArray) (hx:a.eval x= .string s) (hs:s.size≤maxLen)
  (hK:wpList P ops Q rest (a.put o.dst (.bool (decide (s∈L)))) w):wpList P ops Q (o::rest) a w:=
 V7 w hg m x t dL hk e ht _ (.bool false) hz (.lit (.bool false)) [] (plainElem_bool he false) b L _ hm h s hx hs (.bool (decide (s∈L))) (fun v ps hv=>by
  by_cases fi:s∈L
  ·rw[ZW fi]at hv;rw[Is he hv];simp[fi]
  ·rw[Z5 fi]at hv;rw[Is he hv];simp[fi]) hK
end
def mapElem:Value→Option (DataW Unit×List MemPlace)
 | .map (some b)=>some (.lit (.int .i64 b),[])
 | .map none=>some (.nil,[])
 |_=>none
theorem S1{v:Value}{n:Nat}{ps:List MemPlace}(h:mapElem v=some (.lit (.int .i64 n),ps)):v= .map (some n):=by
 unfold mapElem at h
 split at h
 ·simp at h;have:=h.1;rw[Int.ofNat_inj.1 this]
 ·simp at h
 ·cases h
theorem ahz{v:Value}{ps:List MemPlace}(h:mapElem v=some (.nil,ps)):v= .map none:=by
 unfold mapElem at h
 split at h
 ·simp at h
 ·rfl
 ·cases h
def maps(w:World)(P:Program)(k:TypeId)(b:Nat)(L:List ByteArray)(at_:ByteArray→Nat):Prop:=dC w P k mapElem b L fun s=> .lit (.int .i64 (at_ s))
section
variable {P:Program}{k e:TypeId}{ops:Array Oper}{rest:List Oper}{o:Oper}{a:Act}{Q:Exit→Act→World→Prop}
theorem AR(w:World)(hg:o.guard=none)(m x:Operand)(t:TypeId)(dL:o.op=Op.lookup t m x false)(hk:P.underlying k=some .string)(ht:P.underlying t=some (.map k e))
  (hz:(zeroValue e).run P w= .ok (.map none) w) (b:Nat) (L:List ByteArray) (at_:ByteArray→Nat) (hm:a.eval m= .map (some b)) (h:maps w P k b L at_) (s:ByteArray) (hx:a.eval x= .string s) (hs:s.size≤maxLen)
  (hK:wpList P ops Q rest (a.put o.dst (.map (if s∈L then some (at_ s)else none))) w):wpList P ops Q (o::rest) a w:=
 V7 w hg m x t dL hk e ht _ (.map none) hz .nil [] rfl b L _ hm h s hx hs _ (fun v ps hv=>by
  by_cases fi:s∈L
  ·rw[ZW fi]at hv ⊢;exact S1 hv
  ·rw[Z5 fi]at hv ⊢;exact ahz hv) hK
theorem al0(w:World)(hg:o.guard=none)(m x v:Operand)(t:TypeId)(dL:o.op=Op.mapUpdate t m x v)(hk:P.underlying k=some .string)(ht:P.underlying t=some (.map k e))
  (b:Nat) (L:List ByteArray) (at_:ByteArray→Nat) (hm:a.eval m= .map (some b)) (h:maps w P k b L at_) (hn:L.length<maxLen) (s:ByteArray) (hx:a.eval x= .string s) (hs:s.size≤maxLen) (n:Nat) (hv:a.eval v= .map (some n))
  (hK:∀ w',maps w' P k b (ins L s) (fun x=>if x=s then n else at_ x)→w.grownBy w' (some b)→wpList P ops Q rest (a.put o.dst undef) w'):wpList P ops Q (o::rest) a w:=
 Wa w hg m x v t dL hk e ht _ b L _ hm h hn s hx hs _ hv (.lit (.int .i64 n)) [] rfl fun w' hw lT=>hK w' (hw.congr fun x _=>by by_cases e:x=s<;>simp[e]) lT
end
end Go.Tb
set_option maxRecDepth 100000
namespace Go.Proofs.YtajimcniogfpcaaGreatDoor
open Go.Sx Go.Proofs
structure az where
 tables:List aI
 features:List aj
 aT:List aj
 past:List aj
deriving Inhabited
def az.cells(c:az):List AV:=[.sl false 4 (c.tables.map aI.cells),.sl false 18 (c.features.map aj.cells),.sl false 18 (c.aT.map aj.cells),.sl false 18 (c.past.map aj.cells)]
def bL(a b:ae):Bool:=Op.bytesLess a.toList b.toList
theorem Oe:∀ (x y:List UInt8),Op.bytesLess x y=decide (x<y)
 |[],[]=>by simp[Op.bytesLess]
 |_::_,[]=>by simp[Op.bytesLess]
 |[],_::_=>by simp[Op.bytesLess]
 |a::x,b::y=>by
  rw[Op.bytesLess,Oe x y]
  simp only[List.cons_lt_cons_iff]
  by_cases h1:a<b<;>by_cases h2:a=b<;>by_cases h3:x<y<;>simp[h1,h2,h3]
theorem toList_data(a:ae):a.toList=a.data.toList:=ByteArray.toList_eq a
theorem Gg(a b:ae):bL a b=true↔a.data.toList<b.data.toList:=by
 unfold bL
 rw[Oe,toList_data,toList_data,ZN]
theorem pJ(a:ae):bL a a=false:=by
 rw[← X6,Gg];exact List.lt_irrefl _
theorem Aw{a b c:ae}(h:bL a b=true)(k:bL b c=true):bL a c=true:=by
 rw[Gg]at *;exact List.lt_trans h k
theorem Ax{a b:ae}(h:bL a b=false)(k:bL b a=false):a=b:=by
 rw[← X6,Gg]at h k
 exact s6 (List.le_antisymm (List.not_lt.1 k) (List.not_lt.1 h))
theorem Gf{a b:ae}(h:bL a b=true):bL b a=false:=by
 rw[← X6];intro k
 have:=Aw h k
 rw[pJ]at this;cases this
def bl(l:List ae):Prop:=l.Pairwise fun a b=>bL a b=true
def fC:List ae→ae→List ae
 |[],s=>[s]
 |a::l,s=>if bL a s=true then a::fC l s else if a=s then a::l else s::a::l
theorem Am{s x:ae}:∀ {l:List ae},x∈fC l s↔x=s∨x∈l
 |[]=>by simp[fC]
 |a::l=>by
  have ih:=Am (s:=s) (x:=x) (l:=l)
  unfold fC
  split
  ·simp only[ZT,ih];grind
  ·split
   ·rename_i h;subst h;simp
   ·simp
theorem CZ{s:ae}:∀ {l:List ae},bl l→bl (fC l s)
 |[],_=>by simp[fC,bl]
 |a::l,h=>by
  have h1:=Yp.1 h
  unfold fC
  split
  ·rename_i ar
   refine Yp.2 ⟨fun x hx=> ?_,CZ h1.2⟩
   rcases Am.1 hx with rfl|hx
   ·exact ar
   ·exact h1.1 x hx
  ·split
   ·exact h
   ·rename_i h2 h3
    have h4:bL s a=true:=by
     by_cases e:bL s a=true
     ·exact e
     ·exact absurd (Ax (by simpa using h2) (by simpa using e)) h3
    refine Yp.2 ⟨fun x hx=> ?_,h⟩
    rcases ZT.1 hx with rfl|hx
    ·exact h4
    ·exact Aw h4 (h1.1 x hx)
theorem ox:∀ {a b:List ae},bl a→bl b→(∀ x,x∈a↔x∈b)→a=b
 |[],[],_,_,_=>rfl
 |[],y::b,_,_,h=>absurd ((h y).2 (by simp)) (by simp)
 |x::a,[],_,_,h=>absurd ((h x).1 (by simp)) (by simp)
 |x::a,y::b,ha,hb,h=>by
  have h1:=Yp.1 ha
  have h2:=Yp.1 hb
  have e:x=y:=by
   rcases ZT.1 ((h x).1 (by simp))with e|hx
   ·exact e
   ·rcases ZT.1 ((h y).2 (by simp))with e|hy
    ·exact e.symm
    ·have k1:=h2.1 x hx
     have k2:=h1.1 y hy
     rw[Gf k1]at k2;cases k2
  subst e
  rw[ox h1.2 h2.2 fun z=> ?_]
  have hz:=h z
  have n1:x∉a:=fun hm=>by have:=h1.1 x hm;rw[pJ]at this;cases this
  have n2:x∉b:=fun hm=>by have:=h2.1 x hm;rw[pJ]at this;cases this
  constructor
  ·intro hm
   rcases ZT.1 (hz.1 (by simp[hm]))with e|h'
   ·subst e;exact absurd hm n1
   ·exact h'
  ·intro hm
   rcases ZT.1 (hz.2 (by simp[hm]))with e|h'
   ·subst e;exact absurd hm n2
   ·exact h'
mutual
def gO:Ex→List ae×List ae→List ae×List ae
 | .mk k o n t v u p w ks,a=>gi ks (if k=3∨k=4 then(fC a.1 n,a.2)else if k=5 then(a.1,fC a.2 t)else a)
def gi:List Ex→List ae×List ae→List ae×List ae
 |[],a=>a
 |x::l,a=>gi l (gO x a)
end
mutual
def Ex.aW:Ex→List ae
 | .mk k o n t v u p w ks=>(if k=3∨k=4 then[n]else[])++Ex.dm ks
def Ex.dm:List Ex→List ae
 |[]=>[]
 |x::l=>x.aW++Ex.dm l
end
mutual
def Ex.bU:Ex→List ae
 | .mk k o n t v u p w ks=>(if k=5 then[t]else[])++Ex.bK ks
def Ex.bK:List Ex→List ae
 |[]=>[]
 |x::l=>x.bU++Ex.bK l
end
mutual
theorem ze:∀ (x:Ex) (a:List ae×List ae),(∀ s,s∈(gO x a).1↔s∈x.aW∨s∈a.1)∧(∀ s,s∈(gO x a).2↔s∈x.bU∨s∈a.2)
 | .mk k o n t v u p w ks,a=>by
  have ih:=OS ks (if k=3∨k=4 then(fC a.1 n,a.2)else if k=5 then(a.1,fC a.2 t)else a)
  rw[gO,Ex.aW,Ex.bU]
  refine⟨fun s=> ?_,fun s=> ?_⟩
  ·rw[ih.1 s,ZJ]
   by_cases h:k=3∨k=4
   ·simp only[ZW h,Am,Zm];grind
   ·by_cases h5:k=5
    ·simp only[Z5 h,ZW h5];simp
    ·simp only[Z5 h,Z5 h5];simp
  ·rw[ih.2 s,ZJ]
   by_cases h:k=3∨k=4
   ·have h5:¬k=5:=by omega
    simp only[ZW h,Z5 h5];simp
   ·by_cases h5:k=5
    ·simp only[Z5 h,ZW h5,Am,Zm];grind
    ·simp only[Z5 h,Z5 h5];simp
theorem OS:∀ (l:List Ex) (a:List ae×List ae),(∀ s,s∈(gi l a).1↔s∈Ex.dm l∨s∈a.1)∧(∀ s,s∈(gi l a).2↔s∈Ex.bK l∨s∈a.2)
 |[],a=>by simp[gi,Ex.dm,Ex.bK]
 |x::l,a=>by
  have h1:=ze x a
  have h2:=OS l (gO x a)
  rw[gi,Ex.dm,Ex.bK]
  refine⟨fun s=> ?_,fun s=> ?_⟩
  ·rw[h2.1 s,h1.1 s,ZJ];grind
  ·rw[h2.2 s,h1.2 s,ZJ];grind
end
mutual
theorem Bw:∀ (x:Ex) (a:List ae×List ae),bl a.1→bl a.2→bl (gO x a).1∧bl (gO x a).2
 | .mk k o n t v u p w ks,a,h1,h2=>by
  rw[gO]
  refine OT ks _ ?_ ?_
  ·split
   ·exact CZ h1
   ·split<;>exact h1
  ·split
   ·exact h2
   ·split
    ·exact CZ h2
    ·exact h2
theorem OT:∀ (l:List Ex) (a:List ae×List ae),bl a.1→bl a.2→bl (gi l a).1∧bl (gi l a).2
 |[],a,h1,h2=>by rw[gi];exact⟨h1,h2⟩
 |x::l,a,h1,h2=>by
  rw[gi]
  have h:=Bw x a h1 h2
  exact OT l _ h.1 h.2
end
def findF(l:List aj)(n:ae):Option aj:=l.find? fun f=>decide (f.name=n)
theorem rG{l:List aj}{n:ae}{f:aj}(h:findF l n=some f):f∈l∧f.name=n:=by
 unfold findF at h
 exact⟨XK h,by simpa using XJ h⟩
inductive Reach(fs:List aj)(s:List ae):ae→Prop
 |base {n:ae} (h:n∈s):Reach fs s n
 |step {n m:ae} {f:aj} (h:Reach fs s n) (hf:findF fs n=some f) (hm:m∈f.body.aW):Reach fs s m
def wm(fs:List aj)(s t:List ae)(x:ae):Prop:=x∈t∨∃ n f,Reach fs s n∧findF fs n=some f∧x∈f.body.bU
def tC(fs:List aj)(F T:List ae):Prop:=∀ n∈F,∀ f,findF fs n=some f→(∀ m∈f.body.aW,m∈F)∧∀ x∈f.body.bU,x∈T
theorem F0{fs:List aj}{s t F T:List ae}(h1:∀ n∈s,n∈F)(h2:∀ x∈t,x∈T)(h3:∀ n∈F,Reach fs s n)(h4:∀ x∈T,wm fs s t x)(hc:tC fs F T):
  (∀ n,n∈F↔Reach fs s n)∧∀ x,x∈T↔wm fs s t x:=by
 have hF:∀ n,Reach fs s n→n∈F:=fun n h=>by
  induction h with
  |base h=>exact h1 _ h
  |step _ hf hm ih=>exact(hc _ ih _ hf).1 _ hm
 refine⟨fun n=>⟨h3 n,hF n⟩,fun x=>⟨h4 x,fun h=> ?_⟩⟩
 rcases h with h|⟨n,f,hn,hf,hx⟩
 ·exact h2 x h
 ·exact(hc n (hF n hn) f hf).2 x hx
open Classical in
noncomputable def AB(p:ae→Prop):List ae:=if h:∃ l,bl l∧∀ x,x∈l↔p x then h.choose else[]
theorem pK{p:ae→Prop}{l:List ae}(h1:bl l)(h2:∀ x,x∈l↔p x):AB p=l:=by
 have h:∃ l,bl l∧∀ x,x∈l↔p x:=⟨l,h1,h2⟩
 unfold AB
 rw[dif_pos h]
 exact ox h.choose_spec.1 h1 fun x=>(h.choose_spec.2 x).trans (h2 x).symm
noncomputable def iB(fs:List aj)(x:Ex):List ae:=AB (Reach fs x.aW)
noncomputable def oB(fs:List aj)(x:Ex):List ae:=AB (wm fs x.aW x.bU)
theorem yj{l:List ae}(h:bl l):l.Nodup:=h.imp fun {a b} zG e=>by rw[e,pJ]at zG;cases zG
theorem ic{α:Type}[DecidableEq α]:∀ {a b:List α},a.Nodup→(∀ x∈a,x∈b)→a.length≤b.length
 |[],_,_,_=>ZL _
 |x::a,b,h,hs=>by
  have h1:=YV.1 h
  have hx:=hs x (by simp)
  have h2:=ic (b:=b.erase x) h1.2 fun y hy=>(List.mem_erase_of_ne (fun e=>h1.1 (by rw[← e];exact hy))).2 (hs y (by simp[hy]))
  rw[List.length_erase_of_mem hx]at h2
  have h3:0<b.length:=List.length_pos_of_mem hx
  simp only[Z8]
  omega
theorem Tm{α:Type}[DecidableEq α]{a b:List α}(h:a.Nodup)(hs:∀ x∈a,x∈b)(hl:b.length≤a.length):∀ x∈b,x∈a:=fun x hx=>by
 by_cases hm:x∈a
 ·exact hm
 ·have h2:=ic (a:=x::a) (b:=b) (YV.2 ⟨hm,h⟩) fun y hy=>by
   rcases ZT.1 hy with rfl|hy
   ·exact hx
   ·exact hs y hy
  simp only[Z8]at h2
  omega
theorem akv{a b:List ae}(ha:bl a)(hb:bl b)(hs:∀ x∈a,x∈b)(hl:b.length≤a.length):a=b:=
 ox ha hb fun x=>⟨hs x,Tm (yj ha) hs hl x⟩
def univ(fs:List aj)(s:List ae):List ae:=s++fs.flatMap fun f=>f.body.aW
theorem L8{fs:List aj}{s:List ae}{n:ae}(h:Reach fs s n):n∈univ fs s:=by
 cases h with
 |base h=>exact ZI _ h
 |step _ hf hm=>exact Zp _ (Xi.2 ⟨_,(rG hf).1,hm⟩)
end Go.Proofs.YtajimcniogfpcaaGreatDoor
namespace Go.Proofs.YtajimcniogfpcaaGreatDoor
open Go.Sx Go.Proofs Go.Tb
inductive fg(g:ae→List ae):Nat→ae→ae→Prop
 |one {a b:ae} (h:b∈g a):fg g 1 a b
 |cons {k:Nat} {a b c:ae} (h:b∈g a) (t:fg g k b c):fg g (k+1) a c
theorem fg.trans{g:ae→List ae}{k l:Nat}{a b c:ae}(h:fg g k a b)(t:fg g l b c):fg g (k+l) a c:=by
 induction h with
 |one h=>rw[Nat.add_comm];exact .cons h t
 |cons h _ ih=>rw[Nat.add_right_comm];exact .cons h (ih t)
theorem fg.pos{g:ae→List ae}{k:Nat}{a b:ae}(h:fg g k a b):1≤k:=by cases h<;>omega
def de(g:ae→List ae):ae→List ae→Prop
 |_,[]=>True
 |a,b::l=>b∈g a∧de g b l
def bn:ae→List ae→ae
 |a,[]=>a
 |_,b::l=>bn b l
theorem Ab:∀ (a:ae) (l:List ae) (b:ae),bn a (l++[b])=b
 |_,[],_=>rfl
 |_,x::l,b=>Ab x l b
theorem de.snoc{g:ae→List ae}:∀ {a:ae} {l:List ae} {b:ae},de g a l→b∈g (bn a l)→de g a (l++[b])
 |_,[],_,_,h=>⟨h,trivial⟩
 |_,_::_,_,h,hb=>⟨h.1,de.snoc h.2 hb⟩
theorem de.app{g:ae→List ae}:∀ {a:ae} {l m:List ae},de g a l→de g (bn a l) m→de g a (l++m)
 |_,[],_,_,h=>h
 |_,_::_,_,h,hb=>⟨h.1,de.app h.2 hb⟩
theorem xK:∀ (a:ae) (l m:List ae),bn a (l++m)=bn (bn a l) m
 |_,[],_=>rfl
 |_,x::l,m=>xK x l m
theorem de.left{g:ae→List ae}:∀ {a:ae} {l m:List ae},de g a (l++m)→de g a l
 |_,[],_,_=>trivial
 |_,_::_,_,h=>⟨h.1,de.left h.2⟩
theorem de.right{g:ae→List ae}:∀ {a:ae} {l m:List ae},de g a (l++m)→de g (bn a l) m
 |_,[],_,h=>h
 |_,_::l,_,h=>de.right (l:=l) h.2
def eH(g:ae→List ae)(a:ae)(l:List ae):Prop:=de g a l∧a∈g (bn a l)
theorem de.yk{g:ae→List ae}{c:ae}:∀ {a:ae} {l:List ae},de g a l→c∈g (bn a l)→fg g (l.length+1) a c
 |_,[],_,h=> .one h
 |_,_::_,h,hc=> .cons h.1 (de.yk h.2 hc)
theorem fg.TS{g:ae→List ae}{k:Nat}{a c:ae}(h:fg g k a c):∃ l,de g a l∧c∈g (bn a l)∧l.length+1=k:=by
 induction h with
 |one h=>exact⟨[],trivial,h,rfl⟩
 |cons h _ ih=>
  obtain⟨l,h1,h2,h3⟩:=ih
  exact⟨_::l,⟨h,h1⟩,h2,by simpa using h3⟩
def lx:List ae→List ae→Prop
 |a::l,b::m=>bL a b=true∨a=b∧lx l m
 |_,_=>False
theorem Fy:∀ {l m n:List ae},lx l m→lx m n→lx l n
 |_::_,_::_,_::_,h,k=>by
  rcases h with h|⟨rfl,h⟩<;>rcases k with k|⟨rfl,k⟩
  ·exact .inl (Aw h k)
  ·exact .inl h
  ·exact .inl k
  ·exact .inr ⟨rfl,Fy h k⟩
 |[],_,_,h,_=>by cases h
 |_::_,[],_,h,_=>by cases h
 |_::_,_::_,[],_,k=>by cases k
theorem SY:∀ {l:List ae},¬lx l l
 |[],h=>h
 |a::l,h=>by
  rcases h with h|⟨_,h⟩
  ·rw[pJ]at h;cases h
  ·exact SY h
theorem Fx:∀ {l m:List ae} {b c:ae},l.length=m.length→lx l m→lx (l++[b]) (m++[c])
 |_::_,_::_,_,_,hl,h=>by
  rcases h with h|⟨rfl,h⟩
  ·exact .inl h
  ·exact .inr ⟨rfl,Fx (by simpa using hl) h⟩
 |[],_,_,_,_,h=>by cases h
 |_::_,[],_,_,_,h=>by cases h
theorem SZ:∀ {l:List ae} {b c:ae},bL b c=true→lx (l++[b]) (l++[c])
 |[],_,_,h=> .inl h
 |_::_,_,_,h=> .inr ⟨rfl,SZ h⟩
structure nz(g:ae→List ae)(a:ae)(l:List ae):Prop where
 c:eH g a l
 s:∀ m,eH g a m→l.length≤m.length
 m:∀ m,eH g a m→m.length=l.length→m=l∨lx l m
theorem nz.uniq{g:ae→List ae}{a:ae}{l m:List ae}(h:nz g a l)(k:nz g a m):l=m:=by
 have h1:=h.s _ k.c
 have h2:=k.s _ h.c
 rcases h.m _ k.c (by omega)with e|e
 ·exact e.symm
 ·rcases k.m _ h.c (by omega)with e'|e'
  ·exact e'
  ·exact absurd (Fy e e') SY
def ext1(p:List ae):List ae→List (List ae)×List ae→List (List ae)×List ae
 |[],s=>s
 |n::l,s=>ext1 p l (if n∈s.2 then s else(s.1++[p++[n]],s.2++[n]))
def jS(g:ae→List ae)(a:ae):List (List ae)→List (List ae)×List ae→List (List ae)×List ae
 |[],s=>s
 |p::l,s=>jS g a l (ext1 p (g (bn a p)) s)
theorem I5(p:List ae)(n:ae):∀ (l:List ae) (s:List (List ae)×List ae),ext1 p (l++[n]) s=if n∈(ext1 p l s).2 then ext1 p l s else((ext1 p l s).1++[p++[n]],(ext1 p l s).2++[n])
 |[],s=>rfl
 |x::l,s=>I5 p n l _
theorem I6(g:ae→List ae)(a:ae)(p:List ae):∀ (l:List (List ae)) (s:List (List ae)×List ae),jS g a (l++[p]) s=ext1 p (g (bn a p)) (jS g a l s)
 |[],s=>rfl
 |x::l,s=>I6 g a p l _
structure mE(g:ae→List ae)(a:ae)(k:Nat)(D:List (List ae))(T:List ae)(s:List (List ae)×List ae):Prop where
 p:∀ q∈s.1,∃ r∈D,∃ n,q=r++[n]∧n∈g (bn a r)
 n:∀ x,x∈s.2↔x∈T∨∃ q∈s.1,bn a q=x
 d:s.2.Nodup
 o:s.1.Pairwise lx
 l:s.2.length=T.length+s.1.length
theorem mE.start{g:ae→List ae}{a:ae}{k:Nat}{T:List ae}(h:T.Nodup):mE g a k [] T ([],T):=
 ⟨fun q hq=>(by cases hq),fun x=>⟨.inl,fun h=>by rcases h with h|⟨q,hq,_⟩;exact h;cases hq⟩,h,.nil,by simp⟩
theorem mE.wider{g:ae→List ae}{a:ae}{k:Nat}{D D':List (List ae)}{T:List ae}{s:List (List ae)×List ae}(h:mE g a k D T s)(hD:∀ r∈D,r∈D'):mE g a k D' T s:=
 ⟨fun q hq=>by obtain⟨r,hr,n,h1⟩:=h.p q hq;exact⟨r,hD r hr,n,h1⟩,h.n,h.d,h.o,h.l⟩
theorem mE.ext1{g:ae→List ae}{a:ae}{k:Nat}{D:List (List ae)}{T:List ae}{p:List ae}(hp:p∈D)(hlen:∀ r∈D,r.length=k)(zN:∀ r∈D,r=p∨lx r p):
  ∀ (l:List ae) (s:List (List ae)×List ae),mE g a k D T s→(∀ n∈l,n∈g (bn a p))→bl l→(∀ q∈s.1,∀ n∈l,lx q (p++[n]))→mE g a k D T (Go.Proofs.YtajimcniogfpcaaGreatDoor.ext1 p l s)
 |[],s,h,_,_,_=>h
 |n::l,s,h,hg,hs,hq=>by
  have lX:=Yp.1 hs
  rw[Go.Proofs.YtajimcniogfpcaaGreatDoor.ext1]
  by_cases hm:n∈s.2
  ·rw[ZW hm]
   exact mE.ext1 hp hlen zN l s h (fun x hx=>hg x (by simp[hx])) lX.2 fun q jY x hx=>hq q jY x (by simp[hx])
  ·rw[Z5 hm]
   refine mE.ext1 hp hlen zN l _ ⟨fun q jY=> ?_,fun x=> ?_,?_,?_,by have:=h.l;simp only[Z9,YZ];omega⟩ (fun x hx=>hg x (by simp[hx])) lX.2 ?_
   ·rcases ZJ.1 jY with h1|h1
    ·exact h.p q h1
    ·rw[Zm]at h1;subst h1
     exact⟨p,hp,n,rfl,hg n (by simp)⟩
   ·have:=h.n x
    simp only[ZJ,Zm]
    rw[this]
    constructor
    ·rintro((h1|⟨q,h1,h2⟩)|rfl)
     ·exact .inl h1
     ·exact .inr ⟨q,.inl h1,h2⟩
     ·exact .inr ⟨_,.inr rfl,Ab _ _ _⟩
    ·rintro(h1|⟨q,h1|rfl,h2⟩)
     ·exact .inl (.inl h1)
     ·exact .inl (.inr ⟨q,h1,h2⟩)
     ·rw[Ab]at h2;exact .inr h2.symm
   ·exact Yd.2 ⟨h.d,by simp,fun x hx y hy e=>by rw[Zm]at hy;subst hy;subst e;exact hm hx⟩
   ·refine Xo.2 ⟨h.o,by simp,fun q jY y hy=> ?_⟩
    rw[Zm]at hy;subst hy
    exact hq q jY n (by simp)
   ·intro q jY x hx
    rcases ZJ.1 jY with h1|h1
    ·exact hq q h1 x (by simp[hx])
    ·rw[Zm]at h1;subst h1
     exact SZ (lX.1 x hx)
theorem I4{p:List ae}:∀ (l:List ae) (s:List (List ae)×List ae) (x:ae),x∈s.2∨x∈l→x∈(ext1 p l s).2
 |[],s,x,h=>by
  rcases h with h|h
  ·exact h
  ·cases h
 |n::l,s,x,h=>by
  rw[ext1]
  refine I4 l _ x ?_
  rcases h with h|h
  ·left;split
   ·exact h
   ·exact ZI _ h
  ·rcases ZT.1 h with rfl|h
   ·left;split
    ·assumption
    ·simp
   ·exact .inr h
theorem Pj{p:List ae}:∀ (l:List ae) (s:List (List ae)×List ae) (q:List ae),q∈s.1→q∈(ext1 p l s).1
 |[],s,q,h=>h
 |n::l,s,q,h=>by
  rw[ext1]
  refine Pj l _ q ?_
  split
  ·exact h
  ·exact ZI _ h
structure jM(g:ae→List ae)(a:ae)(k:Nat)(P:List (List ae))(S:List ae):Prop where
 p:∀ q∈P,de g a q∧q.length=k
 o:P.Pairwise lx
 d:S.Nodup
 r:∀ x∈S,∃ q,de g a q∧bn a q=x∧q.length≤k
 no:∀ q,eH g a q→k≤q.length
 c:∀ q,de g a q→q.length=k→∃ r,de g a r∧bn a r=bn a q∧(r.length<k∨r∈P∧(r=q∨lx r q))
 z:P≠[]→k≤S.length
theorem jM.start(g:ae→List ae)(a:ae):jM g a 0 [[]] []:=
 ⟨fun q hq=>by rw[Zm]at hq;subst hq;exact⟨trivial,rfl⟩,by simp,.nil,fun x hx=>(by cases hx),fun _ _=>ZL _,
  fun q hq hl=>⟨[],trivial,by rw[Zx hl],.inr ⟨by simp,.inl (Zx hl).symm⟩⟩,fun _=>ZL _⟩
theorem jM.found{g:ae→List ae}{a:ae}{k:Nat}{P:List (List ae)}{S:List ae}(h:jM g a k P S){i:Nat}{p:List ae}(hi:P[i]? =some p)(hc:a∈g (bn a p))(hn:∀ j,j<i→∀ q,P[j]? =some q→a∉g (bn a q)):nz g a p:=by
 obtain⟨cK,rfl⟩:=ZK.1 hi
 obtain⟨h1,h2⟩:=h.p _ (Zc cK)
 refine⟨⟨h1,hc⟩,fun m hm=>by rw[h2];exact h.no m hm,fun m hm hl=> ?_⟩
 obtain⟨r,hr,e,eo⟩:=h.c m hm.1 (hl.trans h2)
 have xa:eH g a r:=⟨hr,by rw[e];exact hm.2⟩
 rcases eo with eo|⟨eo,lh⟩
 ·have:=h.no r xa;omega
 ·obtain⟨j,hj,rfl⟩:=Zf eo
  have gZ:i≤j:=by
   rcases YO j i with ar|mR
   ·exact absurd xa.2 (hn j ar _ (ZY hj))
   ·exact mR
  rcases Xc gZ with rfl|ar
  ·rcases lh with e'|e'
   ·exact .inl e'.symm
   ·exact .inr e'
  ·have:=Yw.1 h.o i j cK hj ar
   rcases lh with e'|e'
   ·rw[← e'];exact .inr this
   ·exact .inr (Fy this e')
theorem Pl{g:ae→List ae}(hg:∀ n,bl (g n)){a:ae}{k:Nat}{T:List ae}(hT:T.Nodup):∀ (P:List (List ae)),(∀ q∈P,q.length=k)→P.Pairwise lx→
  mE g a k P T (jS g a P ([],T)):=by
 intro P
 induction hP:P.length generalizing P with
 |zero=>intro _ _;rw[Zx hP];exact mE.start hT
 |succ n ih=>
  intro hl ho
  obtain⟨Q,p,rfl⟩:∃ Q p,P=Q++[p]:=⟨P.dropLast,P.getLast (by intro e;subst e;simp at hP),(List.dropLast_concat_getLast _).symm⟩
  have uL:=Xo.1 ho
  have h:=ih Q (by simpa using hP) (fun q hq=>hl q (ZI _ hq)) uL.1
  rw[I6]
  have zN:∀ r∈Q++[p],r=p∨lx r p:=fun r hr=>by
   rcases ZJ.1 hr with h1|h1
   ·exact .inr (uL.2.2 r h1 p (by simp))
   ·exact .inl (by simpa using h1)
  refine mE.ext1 (D:=Q++[p]) (by simp) hl zN _ _ (h.wider fun r hr=>ZI _ hr) (fun n hn=>hn) (hg _) fun q hq n hn=> ?_
  obtain⟨r,hr,m,rfl,_⟩:=h.p q hq
  have h1:=hl r (ZI _ hr)
  have h2:=hl p (by simp)
  exact Fx (by omega) (uL.2.2 r hr p (by simp))
theorem ads{g:ae→List ae}{a:ae}:∀ (P Q:List (List ae)) (p:List ae) (n:ae) (s:List (List ae)×List ae),n∈g (bn a p)→n∈(jS g a (P++p::Q) s).2:=by
 have aQ:∀ (Q:List (List ae)) (s:List (List ae)×List ae) (n:ae),n∈s.2→n∈(jS g a Q s).2:=by
  intro Q
  induction Q with
  |nil=>intro s n h;exact h
  |cons q Q ih=>intro s n h;exact ih _ _ (I4 _ _ _ (.inl h))
 intro P
 induction P with
 |nil=>intro Q p n s h;exact aQ Q (ext1 p (g (bn a p)) s) n (I4 _ _ _ (.inr h))
 |cons q P ih=>intro Q p n s h;exact ih Q p n _ h
theorem Pk(g:ae→List ae)(a:ae):∀ (P Q:List (List ae)) (s:List (List ae)×List ae),jS g a (P++Q) s=jS g a Q (jS g a P s)
 |[],_,_=>rfl
 |_::P,Q,_=>Pk g a P Q _
theorem Pm{g:ae→List ae}{a:ae}:∀ (Q:List (List ae)) (s:List (List ae)×List ae) (q:List ae),q∈s.1→q∈(jS g a Q s).1
 |[],_,_,h=>h
 |_::Q,s,q,h=>Pm Q _ q (Pj _ _ q h)
theorem adt{g:ae→List ae}(hg:∀ n,bl (g n)){a:ae}{k:Nat}{T:List ae}(hT:T.Nodup){P:List (List ae)}(hl:∀ q∈P,q.length=k)(ho:P.Pairwise lx){r:List ae}(hr:r∈P){n:ae}(hn:n∈g (bn a r)):
  n∈T∨∃ q∈(jS g a P ([],T)).1,bn a q=n∧(q=r++[n]∨lx q (r++[n])):=by
 obtain⟨Q,Q',rfl⟩:=XP hr
 have e:Q++r::Q'=(Q++[r])++Q':=by simp
 rw[e]at hl ho ⊢
 have uL:=Xo.1 ho
 have hL:=Pl hg hT (a:=a) (Q++[r]) (fun q hq=>hl q (ZI _ hq)) uL.1
 have hs:=ads Q [] r n ([],T) hn
 rw[Pk]
 rcases(hL.n n).1 hs with h|⟨q,hq,h⟩
 ·exact .inl h
 ·refine .inr ⟨q,Pm _ _ q hq,h,?_⟩
  obtain⟨r1,eZ,m,rfl,_⟩:=hL.p q hq
  rw[Ab]at h;subst h
  rcases ZJ.1 eZ with h1|h1
  ·have h2:=(Xo.1 uL.1).2.2 r1 h1 r (by simp)
   refine .inr (Fx ?_ h2)
   rw[hl r1 (by simp[h1]),hl r (by simp)]
  ·rw[Zm]at h1;subst h1;exact .inl rfl
theorem jM.next{g:ae→List ae}(hg:∀ n,bl (g n)){a:ae}{k:Nat}{P:List (List ae)}{S:List ae}(h:jM g a k P S)(hn:∀ q∈P,a∉g (bn a q)):jM g a (k+1) (jS g a P ([],S)).1 (jS g a P ([],S)).2:=by
 have hL:=Pl hg (a:=a) (k:=k) h.d P (fun q hq=>(h.p q hq).2) h.o
 have hp:∀ q∈(jS g a P ([],S)).1,de g a q∧q.length=k+1:=fun q hq=>by
  obtain⟨r,hr,n,rfl,hn⟩:=hL.p q hq
  obtain⟨h1,h2⟩:=h.p r hr
  exact⟨h1.snoc hn,by simp[h2]⟩
 refine⟨hp,hL.o,hL.d,fun x hx=> ?_,fun q hq=> ?_,fun q hq hl=> ?_,fun aH=> ?_⟩
 ·rcases(hL.n x).1 hx with h1|⟨q,h1,h2⟩
  ·obtain⟨q,g1,g2,g3⟩:=h.r x h1
   exact⟨q,g1,g2,by omega⟩
  ·obtain⟨g1,g2⟩:=hp q h1
   exact⟨q,g1,h2,by omega⟩
 ·have h1:=h.no q hq
  rcases Xc h1 with e|e
  ·obtain⟨r,hr,e1,eo⟩:=h.c q hq.1 e.symm
   have xa:eH g a r:=⟨hr,by rw[e1];exact hq.2⟩
   rcases eo with eo|⟨eo,_⟩
   ·have:=h.no r xa;omega
   ·exact absurd xa.2 (hn r eo)
  ·exact e
 ·obtain⟨q0,n,rfl⟩:∃ q0 n,q=q0++[n]:=⟨q.dropLast,q.getLast (by intro e;subst e;simp at hl),(List.dropLast_concat_getLast _).symm⟩
  have Cv:=hq.left
  have jX:n∈g (bn a q0):=hq.right.1
  have mS:q0.length=k:=by simpa using hl
  obtain⟨r,hr,e1,eo⟩:=h.c q0 Cv mS
  rw[← e1]at jX
  rw[Ab]
  rcases eo with eo|⟨eo,lh⟩
  ·exact⟨r++[n],hr.snoc jX,Ab _ _ _,.inl (by simp;omega)⟩
  ·have hlr:=(h.p r eo).2
   rcases adt hg (a:=a) (k:=k) h.d (fun q hq=>(h.p q hq).2) h.o eo jX with h1|⟨q1,h1,h2,h3⟩
   ·obtain⟨q1,g1,g2,g3⟩:=h.r n h1
    exact⟨q1,g1,g2,.inl (by omega)⟩
   ·refine⟨q1,(hp q1 h1).1,h2,.inr ⟨h1,?_⟩⟩
    have h4:r++[n]=q0++[n]∨lx (r++[n]) (q0++[n]):=by
     rcases lh with rfl|h5
     ·exact .inl rfl
     ·exact .inr (Fx (by omega) h5)
    rcases h3 with rfl|h3
    ·exact h4
    ·rcases h4 with h4|h4
     ·rw[← h4];exact .inr h3
     ·exact .inr (Fy h3 h4)
 ·have h1:=hL.l
  have h2:0<(jS g a P ([],S)).1.length:=XB.2 aH
  have h3:P≠[]:=by
   intro e;subst e;exact aH rfl
  have:=h.z h3
  omega
theorem jM.none{g:ae→List ae}{a:ae}{k:Nat}{S:List ae}(h:jM g a k [] S):∀ q,¬eH g a q:=by
 have key:∀ (n:Nat) (q:List ae),q.length=n→¬eH g a q:=by
  intro n
  induction n using Nat.strongRecOn with
  |ind n ih=>
   intro q hl hq
   have h1:=h.no q hq
   have e:q=q.take k++q.drop k:=(Zh k q).symm
   have hp:=hq.1
   rw[e]at hp
   obtain⟨r,hr,e1,eo⟩:=h.c (q.take k) hp.left (by rw[ZQ];omega)
   rcases eo with eo|⟨eo,_⟩
   ·refine ih (r++q.drop k).length (by rw[Z9,YN];omega) (r++q.drop k) rfl ⟨hr.app (by rw[e1];exact hp.right),?_⟩
    rw[xK,e1,← xK,Zh]
    exact hq.2
   ·cases eo
 exact fun q hq=>key q.length q rfl hq
theorem jM.sub{g:ae→List ae}{a:ae}{k:Nat}{P:List (List ae)}{S:List ae}(h:jM g a k P S){N:List ae}(hN:∀ x y,y∈g x→y∈N)(hd:∀ x∈S,∃ y,x∈g y):S.length≤N.length:=
 ic h.d fun x hx=>by obtain⟨y,hy⟩:=hd x hx;exact hN y x hy
structure oH(g:ae→List ae)(b:ae)(d:ae→Nat):Prop where
 r:∀ x,d x<1000→fg g (d x) x b
 l:∀ k x,fg g k x b→d x≤k
theorem Jq{p:ae→Bool}:∀ {l:List ae} {x:ae},bl l→l.find? p=some x→∀ y∈l,p y=true→y=x∨bL x y=true
 |a::l,x,hs,h,y,hy,hp=>by
  have lX:=Yp.1 hs
  rw[List.find?_cons]at h
  split at h
  ·cases h
   rcases ZT.1 hy with rfl|hy
   ·exact .inl rfl
   ·exact .inr (lX.1 y hy)
  ·rename_i hn
   rcases ZT.1 hy with rfl|hy
   ·rw[hn]at hp;cases hp
   ·exact Jq lX.2 h y hy hp
inductive lE(g:ae→List ae)(d:ae→Nat):Nat→ae→List ae→Prop
 |nil {a:ae}:lE g d 0 a []
 |cons {n:Nat} {a b:ae} {l:List ae} (h:(g a).find? (fun x=>decide (d x=n+1))=some b) (t:lE g d n b l):lE g d (n+1) a (b::l)
theorem lE.len{g:ae→List ae}{d:ae→Nat}{n:Nat}{a:ae}{l:List ae}(h:lE g d n a l):l.length=n:=by
 induction h with
 |nil=>rfl
 |cons _ _ ih=>simp[ih]
theorem lE.TS{g:ae→List ae}{b:ae}{d:ae→Nat}(hd:oH g b d){n:Nat}{a:ae}{l:List ae}(h:lE g d n a l)(ha:d a=n+1)(h1:d a<1000):de g a l∧b∈g (bn a l):=by
 induction h with
 |nil=>
  refine⟨trivial,?_⟩
  have:=hd.r _ h1
  rw[ha]at this
  cases this with
  |one h=>exact h
  |cons _ t=>exact absurd t.pos (by omega)
 |cons h _ ih=>
  have h2:=XJ h
  have h3:=XK h
  have h2:=Ye h2
  obtain⟨h4,h5⟩:=ih h2 (by omega)
  exact⟨⟨h3,h4⟩,h5⟩
theorem lE.abT{g:ae→List ae}(hg:∀ n,bl (g n)){b:ae}{d:ae→Nat}(hd:oH g b d){n:Nat}{a:ae}{l:List ae}(h:lE g d n a l)(ha:d a=n+1)(h1:d a<1000):
  ∀ m,de g a m→b∈g (bn a m)→m.length=n→m=l∨lx l m:=by
 induction h with
 |nil=>intro m _ _ hl;exact .inl (Zx hl)
 | @cons n a c l h t ih=>
  intro m hm hb hl
  cases m with
  |nil=>simp at hl
  |cons x m=>
   have h2:d c=n+1:=by have:=XJ h;exact Ye this
   have h3:=hd.l _ _ (de.yk hm.2 hb)
   have fJ:m.length=n:=by simpa using hl
   have h4:n+1≤d x:=by
    rcases YO (d x) (n+1)with ar|mR
    ·have:=hd.l _ _ (fg.cons hm.1 (hd.r x (by omega)))
     omega
    ·exact mR
   have h5:d x=n+1:=by omega
   rcases Jq (hg a) h x hm.1 (by simp[h5])with rfl|h6
   ·rcases ih h2 (by omega) m hm.2 hb fJ with rfl|h7
    ·exact .inl rfl
    ·exact .inr (.inr ⟨rfl,h7⟩)
   ·exact .inr (.inl h6)
theorem lE.RT{g:ae→List ae}(hg:∀ n,bl (g n)){b:ae}{d:ae→Nat}(hd:oH g b d){n:Nat}{l:List ae}(h:lE g d n b l)(ha:d b=n+1)(h1:d b<1000):nz g b l:=by
 have hl:=h.len
 refine⟨h.TS hd ha h1,fun m hm=> ?_,fun m hm e=>h.abT hg hd ha h1 m hm.1 hm.2 (by omega)⟩
 have:=hd.l _ _ (de.yk hm.1 hm.2)
 omega
theorem oH.next{g:ae→List ae}{b:ae}{d:ae→Nat}(hd:oH g b d){n:Nat}{a:ae}(ha:d a=n+2)(h1:d a<1000):∃ c,(g a).find? (fun x=>decide (d x=n+1))=some c:=by
 have h2:=hd.r a h1
 rw[ha]at h2
 cases h2 with
 |cons h t=>
  rename_i c
  have h3:=hd.l _ _ t
  have h4:n+1≤d c:=by
   rcases YO (d c) (n+1)with ar|mR
   ·have:=hd.l _ _ (fg.cons h (hd.r c (by omega)))
    omega
   ·exact mR
  cases h5:(g a).find? (fun x=>decide (d x=n+1))with
  |some c=>exact⟨c,rfl⟩
  |none=>
   have:=Xw.1 h5 c h
   exact absurd (by simp;omega) this
def j2(fs:List aj)(n:ae):Bool:=(findF fs n).isSome
theorem CG{fs:List aj}{n:ae}:j2 fs n=true↔∃ f∈fs,f.name=n:=by
 unfold j2 findF
 rw[List.find?_isSome]
 simp
def nu:List aj→List ae→List ae
 |[],l=>l
 |f::fs,l=>nu fs (fC l f.name)
theorem TZ{x:ae}:∀ {fs:List aj} {l:List ae},x∈nu fs l↔(∃ f∈fs,f.name=x)∨x∈l
 |[],l=>by simp[nu]
 |f::fs,l=>by
  rw[nu,TZ (fs:=fs),Am]
  simp only[ZT,exists_eq_or_imp]
  grind
theorem T0:∀ {fs:List aj} {l:List ae},bl l→bl (nu fs l)
 |[],_,h=>h
 |_::fs,_,h=>T0 (fs:=fs) (CZ h)
theorem sY:bl []:=List.Pairwise.nil
def aL(fs:List aj):List ae:=nu fs []
theorem xR(fs:List aj):bl (aL fs):=T0 sY
theorem oj{fs:List aj}{n:ae}:n∈aL fs↔j2 fs n=true:=by
 rw[CG];unfold aL;rw[TZ];simp
theorem TY:∀ (fs:List aj) (l:List ae),(nu fs l).length≤l.length+fs.length
 |[],l=>ZM _
 |f::fs,l=>by
  have h1:=TY fs (fC l f.name)
  have h2:∀ (l:List ae) (s:ae),(fC l s).length≤l.length+1:=fun l s=>by
   induction l with
   |nil=>simp[fC]
   |cons a l ih=>
    unfold fC
    split
    ·simp only[Z8];omega
    ·split
     ·simp
     ·simp
  have h3:=h2 l f.name
  rw[nu,Z8];omega
theorem FD(fs:List aj):(aL fs).length≤fs.length:=by have:=TY fs [];simpa[aL]using this
def nH(x:Ex):List ae:=(gO x ([],[])).1
theorem zc{x:Ex}{s:ae}:s∈nH x↔s∈x.aW:=by rw[nH,(ze x ([],[])).1];simp
theorem OP(x:Ex):bl (nH x):=(Bw x ([],[]) sY sY).1
def deps(fs:List aj)(n:ae):List ae:=match findF fs n with
 |some f=>(nH f.body).filter (j2 fs)
 |none=>[]
theorem aku{l:List ae}{p:ae→Bool}(h:bl l):bl (l.filter p):=List.Pairwise.filter _ h
theorem Eb(fs:List aj)(n:ae):bl (deps fs n):=by
 unfold deps;split
 ·exact aku (OP _)
 ·exact sY
theorem Bv{fs:List aj}{n m:ae}:m∈deps fs n↔∃ f,findF fs n=some f∧m∈f.body.aW∧j2 fs m=true:=by
 unfold deps
 split
 ·rename_i f h
  rw[Y5,zc]
  constructor
  ·intro h1;exact⟨f,h,h1⟩
  ·rintro⟨f',h1,h2⟩;rw[h]at h1;cases h1;exact h2
 ·rename_i h
  constructor
  ·intro h1;cases h1
  ·rintro⟨f',h1,h2⟩;rw[h]at h1;cases h1
theorem wK{fs:List aj}{n m:ae}(h:m∈deps fs n):m∈aL fs:=by
 obtain⟨_,_,_,h⟩:=Bv.1 h;exact oj.2 h
theorem OJ{fs:List aj}{n m:ae}(h:m∈deps fs n):n∈aL fs:=by
 obtain⟨_,h,_⟩:=Bv.1 h;exact oj.2 (by unfold j2;rw[h];rfl)
def ready(g:ae→List ae)(out:List ae)(n:ae):Bool:=decide (n∉out) && (g n).all fun m=>decide (m∈out)
def j6(g:ae→List ae)(N out:List ae):Option ae:=N.find? (ready g out)
def x5(g:ae→List ae)(N:List ae):Nat→List ae→List ae
 |0,out=>out
 |k+1,out=>match j6 g N out with
  |some n=>x5 g N k (out++[n])
  |none=>out
def kN(g:ae→List ae)(N:List ae):List ae:=x5 g N N.length []
structure gA(g:ae→List ae)(N out:List ae):Prop where
 d:out.Nodup
 s:∀ x∈out,x∈N
 e:kN g N=x5 g N (N.length-out.length) out
 b:∀ i (hi:i<out.length),∀ m∈g out[i],m∈out.take i
theorem gA.start(g:ae→List ae)(N:List ae):gA g N []:=⟨.nil,fun x h=>(by cases h),rfl,fun i hi=>absurd hi (by simp)⟩
theorem F1{g:ae→List ae}{out:List ae}{n:ae}:ready g out n=true↔n∉out∧∀ m∈g n,m∈out:=by
 unfold ready;simp
theorem gA.len{g:ae→List ae}{N out:List ae}(h:gA g N out):out.length≤N.length:=ic h.d h.s
theorem gA.step{g:ae→List ae}{N out:List ae}{n:ae}(h:gA g N out)(hn:j6 g N out=some n):gA g N (out++[n])∧out.length<N.length:=by
 have h1:=XK hn
 obtain⟨h2,h3⟩:=F1.1 (XJ hn)
 have hd:(out++[n]).Nodup:=Yd.2 ⟨h.d,by simp,fun x hx y hy e=>by rw[Zm]at hy;subst hy;subst e;exact h2 hx⟩
 have hs:∀ x∈out++[n],x∈N:=fun x hx=>by
  rcases ZJ.1 hx with hx|hx
  ·exact h.s x hx
  ·rw[Zm]at hx;subst hx;exact h1
 have hl:=ic hd hs
 rw[Z9,YZ]at hl
 refine⟨⟨hd,hs,?_,fun i hi m hm=> ?_⟩,hl⟩
 ·rw[h.e,show N.length-out.length=(N.length-(out++[n]).length)+1 by rw[Z9,YZ];omega,x5,hn]
 ·by_cases kH:i<out.length
  ·rw[Yj kH]at hm
   rw[Y1 (by omega)]
   exact h.b i kH m hm
  ·have e:i=out.length:=by simp at hi;omega
   subst e
   rw[Yv (by omega)]at hm
   simp at hm
   rw[List.take_left]
   exact h3 m hm
theorem gA.done{g:ae→List ae}{N out:List ae}(h:gA g N out)(hn:j6 g N out=none):out=kN g N:=by
 rw[h.e]
 cases hk:N.length-out.length with
 |zero=>rfl
 |succ k=>rw[x5,hn]
theorem gA.end_{g:ae→List ae}{N:List ae}:∃ out,gA g N out∧j6 g N out=none:=by
 have key:∀ k out,gA g N out→N.length-out.length≤k→∃ out,gA g N out∧j6 g N out=none:=by
  intro k
  induction k with
  |zero=>
   intro out h hk
   refine⟨out,h,?_⟩
   cases hn:j6 g N out with
   |none=>rfl
   |some n=>have:=(h.step hn).2;omega
  |succ k ih=>
   intro out h hk
   cases hn:j6 g N out with
   |none=>exact⟨out,h,hn⟩
   |some n=>
    obtain⟨h1,h2⟩:=h.step hn
    exact ih _ h1 (by rw[Z9,YZ];omega)
 exact key _ [] (gA.start g N) (ZM _)
theorem aid(g:ae→List ae)(N:List ae):gA g N (kN g N)∧j6 g N (kN g N)=none:=by
 obtain⟨out,h1,h2⟩:=gA.end_ (g:=g) (N:=N)
 rw[← h1.done h2];exact⟨h1,h2⟩
def pQ(g:ae→List ae)(N l:List ae):Prop:=
 (l=[]∧∀ a∈N,∀ q,¬eH g a q)∨∃ a q,l=a::q∧a∈N∧nz g a q∧(∀ b∈N,bL b a=true→∀ m,eH g b m→q.length<m.length)∧∀ b∈N,∀ m,eH g b m→q.length≤m.length
theorem pQ.uniq{g:ae→List ae}{N l l':List ae}(h:pQ g N l)(k:pQ g N l'):l=l':=by
 rcases h with⟨rfl,h⟩|⟨a,q,rfl,ha,hb,h1,h2⟩<;>rcases k with⟨rfl,k⟩|⟨b,m,rfl,kb,kc,k1,k2⟩
 ·rfl
 ·exact absurd kc.c (h b kb m)
 ·exact absurd hb.c (k a ha q)
 ·have e:a=b:=by
   by_cases e1:bL a b=true
   ·have:=k1 a ha e1 q hb.c
    have:=h2 b kb m kc.c
    omega
   ·by_cases e2:bL b a=true
    ·have:=h1 b kb e2 m kc.c
     have:=k2 a ha q hb.c
     omega
    ·exact Ax (by simpa using e1) (by simpa using e2)
  subst e
  rw[hb.uniq kc]
open Classical in
noncomputable def iF(g:ae→List ae)(N:List ae):List ae:=if h:∃ l,pQ g N l then h.choose else[]
theorem wJ{g:ae→List ae}{N l:List ae}(h:pQ g N l):iF g N=l:=by
 have h':∃ l,pQ g N l:=⟨l,h⟩
 unfold iF;rw[dif_pos h']
 exact h'.choose_spec.uniq h
def kn(g:ae→List ae)(N:List ae)(i:Nat)(l:List ae):Prop:=
 (l=[]∧∀ j (hj:j<N.length),j<i→∀ q,¬eH g N[j] q)∨
  ∃ (k:Nat) (hk:k<N.length) (q:List ae),k<i∧l=N[k]::q∧nz g N[k] q∧(∀ j (hj:j<N.length),j<k→∀ m,eH g N[j] m→q.length<m.length)∧∀ j (hj:j<N.length),j<i→∀ m,eH g N[j] m→q.length≤m.length
theorem kn.start(g:ae→List ae)(N:List ae):kn g N 0 []:= .inl ⟨rfl,fun j _ h=>absurd h (by omega)⟩
theorem kn.none{g:ae→List ae}{N l:List ae}{i:Nat}(h:kn g N i l)(hi:i<N.length)(hn:∀ q,¬eH g N[i] q):kn g N (i+1) l:=by
 rcases h with⟨rfl,h⟩|⟨k,hk,q,h1,rfl,h2,h3,h4⟩
 ·refine .inl ⟨rfl,fun j hj ar q=> ?_⟩
  rcases X8 (X4 ar)with h5|rfl
  ·exact h j hj h5 q
  ·exact hn q
 ·refine .inr ⟨k,hk,q,by omega,rfl,h2,h3,fun j hj ar m hm=> ?_⟩
  rcases X8 (X4 ar)with h5|rfl
  ·exact h4 j hj h5 m hm
  ·exact absurd hm (hn m)
theorem kn.skip{g:ae→List ae}{N l p:List ae}{i:Nat}(h:kn g N i l)(hi:i<N.length)(hb:nz g N[i] p)(hl:l≠[])(hle:l.length≤p.length+1):kn g N (i+1) l:=by
 rcases h with⟨rfl,h⟩|⟨k,hk,q,h1,rfl,h2,h3,h4⟩
 ·exact absurd rfl hl
 ·refine .inr ⟨k,hk,q,by omega,rfl,h2,h3,fun j hj ar m hm=> ?_⟩
  rcases X8 (X4 ar)with h5|rfl
  ·exact h4 j hj h5 m hm
  ·have:=hb.s m hm
   simp only[Z8]at hle
   omega
theorem kn.take{g:ae→List ae}{N l p:List ae}{i:Nat}(h:kn g N i l)(hi:i<N.length)(hb:nz g N[i] p)(ar:l=[]∨p.length+1<l.length):kn g N (i+1) (N[i]::p):=by
 refine .inr ⟨i,hi,p,by omega,rfl,hb,fun j hj iV m hm=> ?_,fun j hj iV m hm=> ?_⟩
 ·rcases h with⟨rfl,h⟩|⟨k,hk,q,h1,rfl,h2,h3,h4⟩
  ·exact absurd hm (h j hj iV m)
  ·have:=h4 j hj iV m hm
   rcases ar with e|e
   ·cases e
   ·simp only[Z8]at e;omega
 ·rcases X8 (X4 iV)with h5|rfl
  ·rcases h with⟨rfl,h⟩|⟨k,hk,q,h1,rfl,h2,h3,h4⟩
   ·exact absurd hm (h j hj h5 m)
   ·have:=h4 j hj h5 m hm
    rcases ar with e|e
    ·cases e
    ·simp only[Z8]at e;omega
  ·exact hb.s m hm
theorem kn.done{g:ae→List ae}{N l:List ae}(hN:bl N)(h:kn g N N.length l):l=iF g N:=by
 refine(wJ ?_).symm
 have lt:∀ (k:Nat) (hk:k<N.length) (j:Nat) (hj:j<N.length),bL N[j] N[k]=true→j<k:=fun k hk j hj h=>by
  rcases YO j k with h1|h1
  ·exact h1
  ·rcases Xc h1 with rfl|h2
   ·rw[pJ]at h;cases h
   ·have:=Yw.1 hN k j hk hj h2
    rw[Gf this]at h;cases h
 rcases h with⟨rfl,h⟩|⟨k,hk,q,h1,rfl,h2,h3,h4⟩
 ·refine .inl ⟨rfl,fun a ha q=> ?_⟩
  obtain⟨j,hj,rfl⟩:=Zf ha
  exact h j hj hj q
 ·refine .inr ⟨_,q,rfl,Zc _,h2,fun b hb ar m hm=> ?_,fun b hb m hm=> ?_⟩
  ·obtain⟨j,hj,rfl⟩:=Zf hb
   exact h3 j hj (lt k hk j hj ar) m hm
  ·obtain⟨j,hj,rfl⟩:=Zf hb
   exact h4 j hj hj m hm
end Go.Proofs.YtajimcniogfpcaaGreatDoor
