/- Maps keyed by names, in the walk's words: which names stand there, and what stands at each; slices of names. -/
import Derived.Maps.OwnSet
import Derived.Maps.OwnOps
import Derived.Maps.RangeWalk
import Derived.Sort.MapsRangeIn
import Derived.Sort.KeysCollected
import Derived.Carry
import Derived.OwnWalk
import Derived.Maps.AppendAt
import Derived.WalkKit
import Derived.Test.YthdeaajdmdmfnaaGreatDoorPt
import Derived.Test.YthdeaajdmdmfnaaGreatDoorPn
set_option linter.unusedSimpArgs false
set_option linter.unusedVariables false
set_option linter.unusedSectionVars false
namespace Go.Tb
open Go.Maps Go.RowKit
open Go.Proofs (encStr)
instance (s:ByteArray)(L:List ByteArray):Decidable (s∈L):= @List.instDecidableMemOfLawfulBEq _ instBEqOfDecidableEq inferInstance s L
def ky(s:ByteArray):Lit:= .string s.data.toList
theorem xY(s:ByteArray):WideAt.IsKeyLit (ky s):=trivial
theorem V9{a b:ByteArray}(h:a.data.toList=b.data.toList):a=b:=by
 cases a;cases b;simp only[ByteArray.mk.injEq];exact Array.toList_inj.1 h
theorem Qa{a b:ByteArray}(h:ky a=ky b):a=b:=V9 (by simpa[ky]using h)
theorem Jt{a b:ByteArray}(h:a≠b):ky a≠ky b:=fun e=>h (Qa e)
def dj(w:World)(P:Program)(k:TypeId)(R:Value→Option (DataW Unit×List MemPlace))(b:Nat)(L:List ByteArray)(f:ByteArray→DataW Unit):Prop:=
 L.Nodup∧(∀ s∈L,s.size≤maxLen)∧∃ D,w.ownsMap P k R b L.length D∧(∀ s,s.size≤maxLen→has D (ky s)=decide (s∈L))∧∀ s∈L,∀ z,D.atKey (ky s) z=f s
def ins(L:List ByteArray)(s:ByteArray):List ByteArray:=if s∈L then L else L++[s]
theorem pK{L:List ByteArray}{s x:ByteArray}:x∈ins L s↔x=s∨x∈L:=by
 unfold ins
 split
 ·rename_i h;constructor
  ·exact .inr
  ·rintro(rfl|h');exact h;exact h'
 ·simp[or_comm]
theorem ac8{L:List ByteArray}{s:ByteArray}(h:L.Nodup):(ins L s).Nodup:=by
 unfold ins
 split
 ·exact h
 ·rename_i hn
  exact XJ.2 ⟨h,by simp,fun a ha b hb e=>by rw[Zg]at hb;subst hb;subst e;exact hn ha⟩
theorem ac7(L:List ByteArray)(s:ByteArray):(ins L s).length≤L.length+1:=by unfold ins;split<;>simp
def fO(L:List ByteArray)(l:List ByteArray):List ByteArray:=l.foldl ins L
theorem Pt{x:ByteArray}:∀ {l L:List ByteArray},x∈fO L l↔x∈l∨x∈L
 |[],L=>by simp[fO]
 |s::l,L=>by
  rw[show fO L (s::l)=fO (ins L s) l from rfl,Pt (l:=l),pK,ZK];grind
theorem DE:∀ (l L:List ByteArray),(fO L l).length≤L.length+l.length
 |[],L=>ZX _
 |s::l,L=>by
  have h1:=DE l (ins L s)
  have h2:=ac7 L s
  simp only[ZS]
  exact ZI h1 (by omega)
theorem Ps(L a b:List ByteArray):fO L (a++b)=fO (fO L a) b:=Xm
section
variable {P:Program}{k:TypeId}{R:Value→Option (DataW Unit×List MemPlace)}{w:World}{b:Nat}{L:List ByteArray}{f:ByteArray→DataW Unit}
theorem dj.lt(h:dj w P k R b L f):b<w.heap.size:=let⟨_,_,_,h,_⟩:=h;h.lt
theorem dj.isMap(h:dj w P k R b L f):∃ es c,w.heap[b]? =some (.map es c):=by
 obtain⟨_,_,D,⟨es,c,h,_⟩,_⟩:=h;exact⟨es,c,h⟩
theorem SA(w:World)(P:Program)(k:TypeId)(R:Value→Option (DataW Unit×List MemPlace))(f:ByteArray→DataW Unit):dj (w.alloc (.map #[] 0)) P k R w.heap.size [] f:=
 ⟨List.nodup_nil,(fun s h=>nomatch h),_,World.ownsMap_made w P k R,(fun s _=>by simp[has]),(fun s h=>nomatch h)⟩
theorem dj.kept{w':World}{row:Option Nat}(h:dj w P k R b L f)(hg:w.grownBy w' row)(aE:some b≠row):dj w' P k R b L f:=by
 obtain⟨h1,h2,D,h3,h4,h5⟩:=h;exact⟨h1,h2,D,h3.kept hg aE,h4,h5⟩
theorem dj.alloc(h:dj w P k R b L f)(o:Obj):dj (w.alloc o) P k R b L f:=h.kept (World.grownBy_alloc w o none) (by simp)
theorem dj.block{w':World}(h:dj w P k R b L f)(hb:w'.heap[b]? =w.heap[b]?):dj w' P k R b L f:=by
 obtain⟨h1,h2,D,⟨es,c,h3,h6⟩,h4,h5⟩:=h;exact⟨h1,h2,D,⟨es,c,hb.trans h3,h6⟩,h4,h5⟩
theorem dj.congr{f':ByteArray→DataW Unit}(h:dj w P k R b L f)(hf:∀ s∈L,f s=f' s):dj w P k R b L f':=by
 obtain⟨h1,h2,D,h3,h4,h5⟩:=h;exact⟨h1,h2,D,h3,h4,fun s hs z=>(h5 s hs z).trans (hf s hs)⟩
theorem dj.store{w':World}{s:ByteArray}{D:DataW Unit}{d:DataW Unit}(h1:L.Nodup)(h2:∀ s∈L,s.size≤maxLen)(hm:IsMap D)(h4:∀ s,s.size≤maxLen→has D (ky s)=decide (s∈L))(h5:∀ s∈L,∀ z,D.atKey (ky s) z=f s)
  (hs:s.size≤maxLen) (h:w'.ownsMap P k R b (L.length+1) (D.put (ky s) d)) (K:Keyed P k) (hT:Tidy D) (hn:size D≤L.length):dj w' P k R b (ins L s) (fun x=>if x=s then d else f x):=by
 have hz:size (D.put (ky s) d)≤(ins L s).length:=by
  rw[size_put hT,h4 s hs]
  unfold ins
  by_cases hm:s∈L
  ·simpa[hm]using hn
  ·simpa[hm]using hn
 refine⟨ac8 h1,fun x hx=> ?_,D.put (ky s) d,?_,fun x hx=> ?_,fun x hx z=> ?_⟩
 ·rcases pK.1 hx with rfl|hx
  ·exact hs
  ·exact h2 x hx
 ·obtain⟨es,c,a1,a2,a3,a4⟩:=h
  refine⟨es,c,a1,a2,?_,a4⟩
  have e:size (D.put (ky s) d)=es.size:=by rw[a4,size_eq,length_read]
  omega
 ·by_cases e:x=s
  ·subst e
   rw[has_put_same hm (xY _)]
   simp[pK]
  ·rw[has_put_other (Jt e),h4 x hx]
   simp[pK,e]
 ·by_cases e:x=s
  ·subst e
   rw[atKey_put_same hm (xY _)];exact(ZV rfl).symm
  ·rw[atKey_put_other (Jt e)]
   rcases pK.1 hx with hx|hx
   ·exact absurd hx e
   ·exact(h5 x hx z).trans (Z7 e).symm
end
section
variable {P:Program}{k:TypeId}(hk:P.underlying k=some .string)
variable {ops:Array Oper}{rest:List Oper}{o:Oper}{a:Act}{Q:Exit→Act→World→Prop}
theorem Tj(w:World)(hg:o.guard=none)(m x v:Operand)(t:TypeId)(eK:o.op=Op.mapUpdate t m x v)(hk:P.underlying k=some .string)(e:TypeId)(ht:P.underlying t=some (.map k e))
  (R:Value→Option (DataW Unit×List MemPlace)) (b:Nat) (L:List ByteArray) (f:ByteArray→DataW Unit) (hm:a.eval m= .map (some b)) (h:dj w P k R b L f) (hn:L.length<maxLen) (s:ByteArray) (hx:a.eval x= .string s) (hs:s.size≤maxLen)
  (val:Value) (hv:a.eval v=val) (d:DataW Unit) (ps:List MemPlace) (hd:R val=some (d,ps))
  (hK:∀ w',dj w' P k R b (ins L s) (fun x=>if x=s then d else f x)→w.grownBy w' (some b)→wpList P ops Q rest (a.put o.dst undef) w'):wpList P ops Q (o::rest) a w:=by
 obtain⟨h1,h2,D,h3,h4,h5⟩:=h
 refine wpList_mapUpdate_own w hg m x v t eK k e (string_keyed hk) ht R b L.length D hm h3 hn _ val (ky s) hx hv (WideMaps.keyOf_string_mk hk hs) d ps hd fun w' hw mT=>hK w' ?_ mT
 exact dj.store h1 h2 h3.isMap h4 h5 hs hw (string_keyed hk) (h3.tidy (string_keyed hk)) h3.size_le
theorem Ti(w:World)(hg:o.guard=none)(m x:Operand)(t:TypeId)(eK:o.op=Op.lookup t m x false)(hk:P.underlying k=some .string)(e:TypeId)(ht:P.underlying t=some (.map k e))
  (R:Value→Option (DataW Unit×List MemPlace)) (z:Value) (hz:(zeroValue e).run P w= .ok z w) (zd:DataW Unit) (zp:List MemPlace) (hzd:R z=some (zd,zp))
  (b:Nat) (L:List ByteArray) (f:ByteArray→DataW Unit) (hm:a.eval m= .map (some b)) (h:dj w P k R b L f) (s:ByteArray) (hx:a.eval x= .string s) (hs:s.size≤maxLen)
  (val:Value) (hval:∀ v ps,R v=some (if s∈L then f s else zd,ps)→v=val)
  (hK:wpList P ops Q rest (a.put o.dst val) w):wpList P ops Q (o::rest) a w:=by
 obtain⟨h1,h2,D,h3,h4,h5⟩:=h
 refine wpList_plain hg fun K' CV=> ?_
 obtain⟨v,ps,cP,ke⟩:=h3.lookup (string_keyed hk) ht hz hzd (WideMaps.keyOf_string_mk hk hs)
 have e1:v=val:=by
  refine hval v ps ?_
  rw[ke]
  by_cases fK:s∈L
  ·rw[ZV fK]
   exact Zd (fun d=>some (d,ps)) (h5 s fK zd)
  ·rw[Z7 fK]
   have h6:has D (ky s)=false:=by rw[h4 s hs];simp[fK]
   exact Zd (fun d=>some (d,ps)) (atKey_of_not_has h6 zd)
 subst e1
 unfold Oper.wp
 have acv:(Instr.lookup t (Value.map (some b)) (Value.string s) false).run P w= .ok v w:=cP
 simp[execOp,eK,hm,hx,acv,Result.andThen]
 exact CV _ _ hK
def fS(w:World)(P:Program)(k:TypeId)(R:Value→Option (DataW Unit×List MemPlace))(b r:Nat)(L:List ByteArray)(f:ByteArray→DataW Unit)(left:ByteArray→Prop)(bJ:Nat):Prop:=
 L.Nodup∧(∀ s∈L,s.size≤maxLen)∧∃ D lf,w.ranges P k R b r L.length D lf bJ∧(∀ s,s.size≤maxLen→has D (ky s)=decide (s∈L))∧(∀ s∈L,∀ z,D.atKey (ky s) z=f s)∧∀ s,s.size≤maxLen→(lf (ky s)=true↔left s)
theorem fS.dj{w:World}{R:Value→Option (DataW Unit×List MemPlace)}{b r:Nat}{L:List ByteArray}{f:ByteArray→DataW Unit}{left:ByteArray→Prop}{bJ:Nat}(h:fS w P k R b r L f left bJ):dj w P k R b L f:=by
 obtain⟨h1,h2,D,lf,h3,h4,h5,_⟩:=h;exact⟨h1,h2,D,h3.owns,h4,h5⟩
theorem fS.left_eq{w:World}{R:Value→Option (DataW Unit×List MemPlace)}{b r:Nat}{L:List ByteArray}{f:ByteArray→DataW Unit}{left:ByteArray→Prop}{bJ:Nat}(h:fS w P k R b r L f left bJ):w.rangeLeft b r=bJ:=by
 obtain⟨h1,h2,D,lf,h3,_⟩:=h;exact h3.left_eq
theorem fS.kept{w w':World}{R:Value→Option (DataW Unit×List MemPlace)}{b r:Nat}{L:List ByteArray}{f:ByteArray→DataW Unit}{left:ByteArray→Prop}{bJ:Nat}{row:Option Nat}(h:fS w P k R b r L f left bJ)(hg:w.grownBy w' row)(hb:some b≠row)(hr:some r≠row):fS w' P k R b r L f left bJ:=by
 obtain⟨h1,h2,D,lf,h3,h4,h5,h6⟩:=h;exact⟨h1,h2,D,lf,h3.kept hg hb hr,h4,h5,h6⟩
theorem fS.iter{w:World}{R:Value→Option (DataW Unit×List MemPlace)}{b r:Nat}{L:List ByteArray}{f:ByteArray→DataW Unit}{left:ByteArray→Prop}{bJ:Nat}(h:fS w P k R b r L f left bJ):∃ x y z u,w.heap[r]? =some (.mapIter x y z u):=by
 obtain⟨h1,h2,D,lf,⟨es,clock,since,seen,c0,_,_,_,_,h3,_⟩,_⟩:=h;exact⟨_,_,_,_,h3⟩
theorem ajE(w:World)(hg:o.guard=none)(m:Operand)(t:TypeId)(eK:o.op=Op.range t m)(hk:P.underlying k=some .string)(e:TypeId)(ht:P.underlying t=some (.map k e))
  (R:Value→Option (DataW Unit×List MemPlace)) (b:Nat) (L:List ByteArray) (f:ByteArray→DataW Unit) (hm:a.eval m= .map (some b)) (h:dj w P k R b L f)
  (hK:∀ w' bJ,fS w' P k R b w.heap.size L f (·∈L) bJ→w.grownBy w' none→w'.heap.size=w.heap.size+1→wpList P ops Q rest (a.put o.dst (.pointer (some ⟨w.heap.size,0,none⟩))) w'):wpList P ops Q (o::rest) a w:=by
 obtain⟨h1,h2,D,h3,h4,h5⟩:=h
 exact wpList_range_own w hg m t eK k e (string_keyed hk) ht R b L.length D hm h3 fun w' hr mT bg=>hK w' _ ⟨h1,h2,D,_,hr,h4,h5,fun s hs=>by rw[h4 s hs];simp⟩ mT bg
theorem ajC(w:World)(hg:o.guard=none)(it:Operand)(eK:o.op=Op.next it false)(hk:P.underlying k=some .string)(R:Value→Option (DataW Unit×List MemPlace))(DV:ByteArray→Value)
  (b r:Nat) (L:List ByteArray) (f:ByteArray→DataW Unit) (ada:∀ s∈L,∀ v ps,R v=some (f s,ps)→v=DV s) (left:ByteArray→Prop) (bJ:Nat)
  (hit:a.eval it= .pointer (some ⟨r,0,none⟩)) (h:fS w P k R b r L f left bJ)
  (abI:(∀ s,s.size≤maxLen→¬left s)→wpList P ops Q rest (a.put o.dst (.tuple #[.bool false])) w)
  (abP:∀ (s:ByteArray) (w':World) (j5:Nat),s∈L→left s→fS w' P k R b r L f (fun x=>left x∧x≠s) j5→j5<bJ→w.grownBy w' (some r)→w'.heap.size=w.heap.size→
   (Instr.entry (.pointer (some ⟨r,0,none⟩))).run P w'= .ok (.tuple #[.string s,DV s]) w'→wpList P ops Q rest (a.put o.dst (.tuple #[.bool true,.string s,DV s])) w'):
  wpList P ops Q (o::rest) a w:=by
 obtain⟨h1,h2,D,lf,h3,h4,h5,h6⟩:=h
 refine wpList_plain hg fun K' CV=> ?_
 unfold Oper.wp
 rcases h3.next (string_keyed hk) o.type with⟨h0,hl,cP⟩|⟨key,v,kl,y,w',j5,Ah,Ai,hv,ke,cP,uZ,aw,mT,bg,uQ⟩
 ·simp[execOp,eK,hit,cP,Result.andThen]
  exact CV _ _ (abI fun s hs fq=>by have:=(h6 s hs).2 fq;rw[hl]at this;cases this)
 ·obtain⟨x,rfl,rfl,hx⟩:=Maps.keyOf_str hk Ah
  obtain⟨s,hs⟩:∃ s:ByteArray,s.data.toList=x:=⟨⟨x.toArray⟩,by simp⟩
  subst hs
  have pF:s.size≤maxLen:=by rw[ZQ]at hx;exact hx
  have fK:s∈L:=by
   have e1:has D (ky s)=true:=has_true_of_atKey ke
   rw[h4 s pF]at e1
   simpa using e1
  have hval:v=DV s:=by
   refine ada s fK v y.2 ?_
   rw[hv,← h5 s fK (f s)]
   exact Zd some (Prod.ext (ke (f s)).symm rfl)
  have Ii:encStr s.data.toList= .string s:=by simp[encStr]
  rw[Ii]at cP uQ
  subst hval
  simp[execOp,eK,hit,cP,Result.andThen]
  refine CV _ _ (abP s w' j5 fK ((h6 s pF).1 Ai) ⟨h1,h2,D,_,uZ,h4,h5,fun x sR=> ?_⟩ aw mT bg uQ)
  rw[Z8,h6 x sR]
  refine and_congr_right fun _=> ?_
  by_cases e:x=s
  ·subst e
   have e2:=WideAt.sameKey_self (xY x)
   have e3:(ky x).sameKey (Lit.string x.data.toList)=true:=e2
   simp[e3]
  ·have e2:=sameKey_ne (Jt e)
   have e3:(ky x).sameKey (Lit.string s.data.toList)=false:=e2
   simp[e3,e]
end
abbrev tt:DataW Unit:= .lit (.bool true)
def set(w:World)(P:Program)(k e:TypeId)(b:Nat)(L:List ByteArray):Prop:=dj w P k (plainElem P e) b L fun _=>tt
theorem Me{P:Program}{e:TypeId}(he:P.underlying e=some .bool){v:Value}{c:Bool}{ps:List MemPlace}(h:plainElem (H:=Unit) P e v=some (.lit (.bool c),ps)):v= .bool c:=by
 unfold plainElem at h
 rw[he]at h
 cases v<;>simp at h
 rw[h.1]
section
variable {P:Program}{k e:TypeId}{ops:Array Oper}{rest:List Oper}{o:Oper}{a:Act}{Q:Exit→Act→World→Prop}
theorem Ev(w:World)(P:Program)(k e:TypeId):set (w.alloc (.map #[] 0)) P k e w.heap.size []:=SA w P k _ _
theorem K8(w:World)(hg:o.guard=none)(m x v:Operand)(t:TypeId)(eK:o.op=Op.mapUpdate t m x v)(hk:P.underlying k=some .string)(he:P.underlying e=some .bool)(ht:P.underlying t=some (.map k e))
  (b:Nat) (L:List ByteArray) (hm:a.eval m= .map (some b)) (h:set w P k e b L) (hn:L.length<maxLen) (s:ByteArray) (hx:a.eval x= .string s) (hs:s.size≤maxLen) (hv:a.eval v= .bool true)
  (hK:∀ w',set w' P k e b (ins L s)→w.grownBy w' (some b)→wpList P ops Q rest (a.put o.dst undef) w'):wpList P ops Q (o::rest) a w:=
 Tj w hg m x v t eK hk e ht _ b L _ hm h hn s hx hs _ hv tt [] (plainElem_bool he true) fun w' hw mT=>hK w' (hw.congr fun x _=>by split<;>rfl) mT
theorem E6(w:World)(hg:o.guard=none)(m x:Operand)(t:TypeId)(eK:o.op=Op.lookup t m x false)(hk:P.underlying k=some .string)(he:P.underlying e=some .bool)(ht:P.underlying t=some (.map k e))
  (hz:(zeroValue e).run P w= .ok (.bool false) w) (b:Nat) (L:List ByteArray) (hm:a.eval m= .map (some b)) (h:set w P k e b L) (s:ByteArray) (hx:a.eval x= .string s) (hs:s.size≤maxLen)
  (hK:wpList P ops Q rest (a.put o.dst (.bool (decide (s∈L)))) w):wpList P ops Q (o::rest) a w:=
 Ti w hg m x t eK hk e ht _ (.bool false) hz (.lit (.bool false)) [] (plainElem_bool he false) b L _ hm h s hx hs (.bool (decide (s∈L))) (fun v ps hv=>by
  by_cases fK:s∈L
  ·rw[ZV fK]at hv;rw[Me he hv];simp[fK]
  ·rw[Z7 fK]at hv;rw[Me he hv];simp[fK]) hK
end
def mapElem:Value→Option (DataW Unit×List MemPlace)
 | .map (some b)=>some (.lit (.int .i64 b),[])
 | .map none=>some (.nil,[])
 |_=>none
theorem Qx{v:Value}{n:Nat}{ps:List MemPlace}(h:mapElem v=some (.lit (.int .i64 n),ps)):v= .map (some n):=by
 unfold mapElem at h
 split at h
 ·simp at h;have:=h.1;rw[Int.ofNat_inj.1 this]
 ·simp at h
 ·cases h
theorem aeQ{v:Value}{ps:List MemPlace}(h:mapElem v=some (.nil,ps)):v= .map none:=by
 unfold mapElem at h
 split at h
 ·simp at h
 ·rfl
 ·cases h
def maps(w:World)(P:Program)(k:TypeId)(b:Nat)(L:List ByteArray)(at_:ByteArray→Nat):Prop:=dj w P k mapElem b L fun s=> .lit (.int .i64 (at_ s))
section
variable {P:Program}{k e:TypeId}{ops:Array Oper}{rest:List Oper}{o:Oper}{a:Act}{Q:Exit→Act→World→Prop}
theorem Bw(w:World)(hg:o.guard=none)(m x:Operand)(t:TypeId)(eK:o.op=Op.lookup t m x false)(hk:P.underlying k=some .string)(ht:P.underlying t=some (.map k e))
  (hz:(zeroValue e).run P w= .ok (.map none) w) (b:Nat) (L:List ByteArray) (at_:ByteArray→Nat) (hm:a.eval m= .map (some b)) (h:maps w P k b L at_) (s:ByteArray) (hx:a.eval x= .string s) (hs:s.size≤maxLen)
  (hK:wpList P ops Q rest (a.put o.dst (.map (if s∈L then some (at_ s)else none))) w):wpList P ops Q (o::rest) a w:=
 Ti w hg m x t eK hk e ht _ (.map none) hz .nil [] rfl b L _ hm h s hx hs _ (fun v ps hv=>by
  by_cases fK:s∈L
  ·rw[ZV fK]at hv ⊢;exact Qx hv
  ·rw[Z7 fK]at hv ⊢;exact aeQ hv) hK
theorem ajD(w:World)(hg:o.guard=none)(m x v:Operand)(t:TypeId)(eK:o.op=Op.mapUpdate t m x v)(hk:P.underlying k=some .string)(ht:P.underlying t=some (.map k e))
  (b:Nat) (L:List ByteArray) (at_:ByteArray→Nat) (hm:a.eval m= .map (some b)) (h:maps w P k b L at_) (hn:L.length<maxLen) (s:ByteArray) (hx:a.eval x= .string s) (hs:s.size≤maxLen) (n:Nat) (hv:a.eval v= .map (some n))
  (hK:∀ w',maps w' P k b (ins L s) (fun x=>if x=s then n else at_ x)→w.grownBy w' (some b)→wpList P ops Q rest (a.put o.dst undef) w'):wpList P ops Q (o::rest) a w:=
 Tj w hg m x v t eK hk e ht _ b L _ hm h hn s hx hs _ hv (.lit (.int .i64 n)) [] rfl fun w' hw mT=>hK w' (hw.congr fun x _=>by by_cases e:x=s<;>simp[e]) mT
end
end Go.Tb
set_option maxRecDepth 100000
namespace Go.Proofs.YthdeaajdmdmfnaaGreatDoor
open Go.Sx Go.Proofs
structure au where
 tables:List bj
 features:List aq
 aD:List aq
 past:List aq
deriving Inhabited
def au.cells(c:au):List AV:=[.sl false 4 (c.tables.map bj.cells),.sl false 18 (c.features.map aq.cells),.sl false 18 (c.aD.map aq.cells),.sl false 18 (c.past.map aq.cells)]
def dU(a b:af):Bool:=Op.bytesLess a.toList b.toList
theorem Mg:∀ (x y:List UInt8),Op.bytesLess x y=decide (x<y)
 |[],[]=>by simp[Op.bytesLess]
 |_::_,[]=>by simp[Op.bytesLess]
 |[],_::_=>by simp[Op.bytesLess]
 |a::x,b::y=>by
  rw[Op.bytesLess,Mg x y]
  simp only[List.cons_lt_cons_iff]
  by_cases h1:a<b<;>by_cases h2:a=b<;>by_cases h3:x<y<;>simp[h1,h2,h3]
theorem toList_data(a:af):a.toList=a.data.toList:=ByteArray.toList_eq a
theorem Es(a b:af):dU a b=true↔a.data.toList<b.data.toList:=by
 unfold dU
 rw[Mg,toList_data,toList_data,ZR]
theorem tE(a:af):dU a a=false:=by
 rw[← Ya,Es];exact List.lt_irrefl _
theorem Et{a b c:af}(h:dU a b=true)(k:dU b c=true):dU a c=true:=by
 rw[Es]at *;exact List.lt_trans h k
theorem Kg{a b:af}(h:dU a b=false)(k:dU b a=false):a=b:=by
 rw[← Ya,Es]at h k
 exact Kz (List.le_antisymm (List.not_lt.1 k) (List.not_lt.1 h))
theorem R4{a b:af}(h:dU a b=true):dU b a=false:=by
 rw[← Ya];intro k
 have:=Et h k
 rw[tE]at this;cases this
def cC(l:List af):Prop:=l.Pairwise fun a b=>dU a b=true
def jw:List af→af→List af
 |[],s=>[s]
 |a::l,s=>if dU a s=true then a::jw l s else if a=s then a::l else s::a::l
theorem ye{s x:af}:∀ {l:List af},x∈jw l s↔x=s∨x∈l
 |[]=>by simp[jw]
 |a::l=>by
  have ih:=ye (s:=s) (x:=x) (l:=l)
  unfold jw
  split
  ·simp only[ZK,ih];grind
  ·split
   ·rename_i h;subst h;simp
   ·simp
theorem A6{s:af}:∀ {l:List af},cC l→cC (jw l s)
 |[],_=>by simp[jw,cC]
 |a::l,h=>by
  have h1:=XN.1 h
  unfold jw
  split
  ·rename_i aw
   refine XN.2 ⟨fun x hx=> ?_,A6 h1.2⟩
   rcases ye.1 hx with rfl|hx
   ·exact aw
   ·exact h1.1 x hx
  ·split
   ·exact h
   ·rename_i h2 h3
    have h4:dU s a=true:=by
     by_cases e:dU s a=true
     ·exact e
     ·exact absurd (Kg (by simpa using h2) (by simpa using e)) h3
    refine XN.2 ⟨fun x hx=> ?_,h⟩
    rcases ZK.1 hx with rfl|hx
    ·exact h4
    ·exact Et h4 (h1.1 x hx)
theorem tH:∀ {a b:List af},cC a→cC b→(∀ x,x∈a↔x∈b)→a=b
 |[],[],_,_,_=>rfl
 |[],y::b,_,_,h=>absurd ((h y).2 (by simp)) (by simp)
 |x::a,[],_,_,h=>absurd ((h x).1 (by simp)) (by simp)
 |x::a,y::b,ha,hb,h=>by
  have h1:=XN.1 ha
  have h2:=XN.1 hb
  have e:x=y:=by
   rcases ZK.1 ((h x).1 (by simp))with e|hx
   ·exact e
   ·rcases ZK.1 ((h y).2 (by simp))with e|hy
    ·exact e.symm
    ·have k1:=h2.1 x hx
     have k2:=h1.1 y hy
     rw[R4 k1]at k2;cases k2
  subst e
  rw[tH h1.2 h2.2 fun z=> ?_]
  have hz:=h z
  have n1:x∉a:=fun hm=>by have:=h1.1 x hm;rw[tE]at this;cases this
  have n2:x∉b:=fun hm=>by have:=h2.1 x hm;rw[tE]at this;cases this
  constructor
  ·intro hm
   rcases ZK.1 (hz.1 (by simp[hm]))with e|h'
   ·subst e;exact absurd hm n1
   ·exact h'
  ·intro hm
   rcases ZK.1 (hz.2 (by simp[hm]))with e|h'
   ·subst e;exact absurd hm n2
   ·exact h'
mutual
def lN:Ex→List af×List af→List af×List af
 | .mk k o n t v u p w ks,a=>o9 ks (if k=3∨k=4 then(jw a.1 n,a.2)else if k=5 then(a.1,jw a.2 t)else a)
def o9:List Ex→List af×List af→List af×List af
 |[],a=>a
 |x::l,a=>o9 l (lN x a)
end
mutual
def Ex.bS:Ex→List af
 | .mk k o n t v u p w ks=>(if k=3∨k=4 then[n]else[])++Ex.eJ ks
def Ex.eJ:List Ex→List af
 |[]=>[]
 |x::l=>x.bS++Ex.eJ l
end
mutual
def Ex.eU:Ex→List af
 | .mk k o n t v u p w ks=>(if k=5 then[t]else[])++Ex.cI ks
def Ex.cI:List Ex→List af
 |[]=>[]
 |x::l=>x.eU++Ex.cI l
end
mutual
theorem Cp:∀ (x:Ex) (a:List af×List af),(∀ s,s∈(lN x a).1↔s∈x.bS∨s∈a.1)∧(∀ s,s∈(lN x a).2↔s∈x.eU∨s∈a.2)
 | .mk k o n t v u p w ks,a=>by
  have ih:=MI ks (if k=3∨k=4 then(jw a.1 n,a.2)else if k=5 then(a.1,jw a.2 t)else a)
  rw[lN,Ex.bS,Ex.eU]
  refine⟨fun s=> ?_,fun s=> ?_⟩
  ·rw[ih.1 s,Zy]
   by_cases h:k=3∨k=4
   ·simp only[ZV h,ye,Zg];grind
   ·by_cases h5:k=5
    ·simp only[Z7 h,ZV h5];simp
    ·simp only[Z7 h,Z7 h5];simp
  ·rw[ih.2 s,Zy]
   by_cases h:k=3∨k=4
   ·have h5:¬k=5:=by omega
    simp only[ZV h,Z7 h5];simp
   ·by_cases h5:k=5
    ·simp only[Z7 h,ZV h5,ye,Zg];grind
    ·simp only[Z7 h,Z7 h5];simp
theorem MI:∀ (l:List Ex) (a:List af×List af),(∀ s,s∈(o9 l a).1↔s∈Ex.eJ l∨s∈a.1)∧(∀ s,s∈(o9 l a).2↔s∈Ex.cI l∨s∈a.2)
 |[],a=>by simp[o9,Ex.eJ,Ex.cI]
 |x::l,a=>by
  have h1:=Cp x a
  have h2:=MI l (lN x a)
  rw[o9,Ex.eJ,Ex.cI]
  refine⟨fun s=> ?_,fun s=> ?_⟩
  ·rw[h2.1 s,h1.1 s,Zy];grind
  ·rw[h2.2 s,h1.2 s,Zy];grind
end
mutual
theorem Cq:∀ (x:Ex) (a:List af×List af),cC a.1→cC a.2→cC (lN x a).1∧cC (lN x a).2
 | .mk k o n t v u p w ks,a,h1,h2=>by
  rw[lN]
  refine MJ ks _ ?_ ?_
  ·split
   ·exact A6 h1
   ·split<;>exact h1
  ·split
   ·exact h2
   ·split
    ·exact A6 h2
    ·exact h2
theorem MJ:∀ (l:List Ex) (a:List af×List af),cC a.1→cC a.2→cC (o9 l a).1∧cC (o9 l a).2
 |[],a,h1,h2=>by rw[o9];exact⟨h1,h2⟩
 |x::l,a,h1,h2=>by
  rw[o9]
  have h:=Cq x a h1 h2
  exact MJ l _ h.1 h.2
end
def findF(l:List aq)(n:af):Option aq:=l.find? fun f=>decide (f.name=n)
theorem Nt{l:List aq}{n:af}{f:aq}(h:findF l n=some f):f∈l∧f.name=n:=by
 unfold findF at h
 exact⟨List.mem_of_find?_eq_some h,by simpa using List.find?_some h⟩
inductive Reach(fs:List aq)(s:List af):af→Prop
 |base {n:af} (h:n∈s):Reach fs s n
 |step {n m:af} {f:aq} (h:Reach fs s n) (hf:findF fs n=some f) (hm:m∈f.body.bS):Reach fs s m
def yR(fs:List aq)(s t:List af)(x:af):Prop:=x∈t∨∃ n f,Reach fs s n∧findF fs n=some f∧x∈f.body.eU
def rD(fs:List aq)(F T:List af):Prop:=∀ n∈F,∀ f,findF fs n=some f→(∀ m∈f.body.bS,m∈F)∧∀ x∈f.body.eU,x∈T
theorem RO{fs:List aq}{s t F T:List af}(h1:∀ n∈s,n∈F)(h2:∀ x∈t,x∈T)(h3:∀ n∈F,Reach fs s n)(h4:∀ x∈T,yR fs s t x)(hc:rD fs F T):
  (∀ n,n∈F↔Reach fs s n)∧∀ x,x∈T↔yR fs s t x:=by
 have hF:∀ n,Reach fs s n→n∈F:=fun n h=>by
  induction h with
  |base h=>exact h1 _ h
  |step _ hf hm ih=>exact(hc _ ih _ hf).1 _ hm
 refine⟨fun n=>⟨h3 n,hF n⟩,fun x=>⟨h4 x,fun h=> ?_⟩⟩
 rcases h with h|⟨n,f,hn,hf,hx⟩
 ·exact h2 x h
 ·exact(hc n (hF n hn) f hf).2 x hx
open Classical in
noncomputable def EA(p:af→Prop):List af:=if h:∃ l,cC l∧∀ x,x∈l↔p x then h.choose else[]
theorem EB{p:af→Prop}{l:List af}(h1:cC l)(h2:∀ x,x∈l↔p x):EA p=l:=by
 have h:∃ l,cC l∧∀ x,x∈l↔p x:=⟨l,h1,h2⟩
 unfold EA
 rw[dif_pos h]
 exact tH h.choose_spec.1 h1 fun x=>(h.choose_spec.2 x).trans (h2 x).symm
noncomputable def SP(fs:List aq)(x:Ex):List af:=EA (Reach fs x.bS)
noncomputable def SQ(fs:List aq)(x:Ex):List af:=EA (yR fs x.bS x.eU)
theorem EC{l:List af}(h:cC l):l.Nodup:=h.imp fun {a b} eT e=>by rw[e,tE]at eT;cases eT
theorem jU{α:Type}[DecidableEq α]:∀ {a b:List α},a.Nodup→(∀ x∈a,x∈b)→a.length≤b.length
 |[],_,_,_=>ZM _
 |x::a,b,h,hs=>by
  have h1:=Yy.1 h
  have hx:=hs x (by simp)
  have h2:=jU (b:=b.erase x) h1.2 fun y hy=>(List.mem_erase_of_ne (fun e=>h1.1 (by rw[← e];exact hy))).2 (hs y (by simp[hy]))
  rw[List.length_erase_of_mem hx]at h2
  have h3:0<b.length:=List.length_pos_of_mem hx
  simp only[ZS]
  omega
theorem afj{α:Type}[DecidableEq α]{a b:List α}(h:a.Nodup)(hs:∀ x∈a,x∈b)(hl:b.length≤a.length):∀ x∈b,x∈a:=fun x hx=>by
 by_cases hm:x∈a
 ·exact hm
 ·have h2:=jU (a:=x::a) (b:=b) (Yy.2 ⟨hm,h⟩) fun y hy=>by
   rcases ZK.1 hy with rfl|hy
   ·exact hx
   ·exact hs y hy
  simp only[ZS]at h2
  omega
theorem ait{a b:List af}(ha:cC a)(hb:cC b)(hs:∀ x∈a,x∈b)(hl:b.length≤a.length):a=b:=
 tH ha hb fun x=>⟨hs x,afj (EC ha) hs hl x⟩
def univ(fs:List aq)(s:List af):List af:=s++fs.flatMap fun f=>f.body.bS
theorem af7{fs:List aq}{s:List af}{n:af}(h:Reach fs s n):n∈univ fs s:=by
 cases h with
 |base h=>exact Zm _ h
 |step _ hf hm=>exact Y6 _ (List.mem_flatMap.2 ⟨_,(Nt hf).1,hm⟩)
end Go.Proofs.YthdeaajdmdmfnaaGreatDoor
namespace Go.Proofs.YthdeaajdmdmfnaaGreatDoor
open Go.Sx Go.Proofs Go.Tb
inductive iI(g:af→List af):Nat→af→af→Prop
 |one {a b:af} (h:b∈g a):iI g 1 a b
 |cons {k:Nat} {a b c:af} (h:b∈g a) (t:iI g k b c):iI g (k+1) a c
theorem iI.trans{g:af→List af}{k l:Nat}{a b c:af}(h:iI g k a b)(t:iI g l b c):iI g (k+l) a c:=by
 induction h with
 |one h=>rw[Nat.add_comm];exact .cons h t
 |cons h _ ih=>rw[Nat.add_right_comm];exact .cons h (ih t)
theorem iI.pos{g:af→List af}{k:Nat}{a b:af}(h:iI g k a b):1≤k:=by cases h<;>omega
def eW(g:af→List af):af→List af→Prop
 |_,[]=>True
 |a,b::l=>b∈g a∧eW g b l
def bB:af→List af→af
 |a,[]=>a
 |_,b::l=>bB b l
theorem x7:∀ (a:af) (l:List af) (b:af),bB a (l++[b])=b
 |_,[],_=>rfl
 |_,x::l,b=>x7 x l b
theorem eW.snoc{g:af→List af}:∀ {a:af} {l:List af} {b:af},eW g a l→b∈g (bB a l)→eW g a (l++[b])
 |_,[],_,_,h=>⟨h,trivial⟩
 |_,_::_,_,h,hb=>⟨h.1,eW.snoc h.2 hb⟩
theorem eW.app{g:af→List af}:∀ {a:af} {l m:List af},eW g a l→eW g (bB a l) m→eW g a (l++m)
 |_,[],_,_,h=>h
 |_,_::_,_,h,hb=>⟨h.1,eW.app h.2 hb⟩
theorem JB:∀ (a:af) (l m:List af),bB a (l++m)=bB (bB a l) m
 |_,[],_=>rfl
 |_,x::l,m=>JB x l m
theorem eW.left{g:af→List af}:∀ {a:af} {l m:List af},eW g a (l++m)→eW g a l
 |_,[],_,_=>trivial
 |_,_::_,_,h=>⟨h.1,eW.left h.2⟩
theorem eW.right{g:af→List af}:∀ {a:af} {l m:List af},eW g a (l++m)→eW g (bB a l) m
 |_,[],_,h=>h
 |_,_::l,_,h=>eW.right (l:=l) h.2
def je(g:af→List af)(a:af)(l:List af):Prop:=eW g a l∧a∈g (bB a l)
def lx:List af→List af→Prop
 |a::l,b::m=>dU a b=true∨a=b∧lx l m
 |_,_=>False
theorem DT:∀ {l m n:List af},lx l m→lx m n→lx l n
 |_::_,_::_,_::_,h,k=>by
  rcases h with h|⟨rfl,h⟩<;>rcases k with k|⟨rfl,k⟩
  ·exact .inl (Et h k)
  ·exact .inl h
  ·exact .inl k
  ·exact .inr ⟨rfl,DT h k⟩
 |[],_,_,h,_=>by cases h
 |_::_,[],_,h,_=>by cases h
 |_::_,_::_,[],_,k=>by cases k
theorem Qv:∀ {l:List af},¬lx l l
 |[],h=>h
 |a::l,h=>by
  rcases h with h|⟨_,h⟩
  ·rw[tE]at h;cases h
  ·exact Qv h
theorem DS:∀ {l m:List af} {b c:af},l.length=m.length→lx l m→lx (l++[b]) (m++[c])
 |_::_,_::_,_,_,hl,h=>by
  rcases h with h|⟨rfl,h⟩
  ·exact .inl h
  ·exact .inr ⟨rfl,DS (by simpa using hl) h⟩
 |[],_,_,_,_,h=>by cases h
 |_::_,[],_,_,_,h=>by cases h
theorem Qw:∀ {l:List af} {b c:af},dU b c=true→lx (l++[b]) (l++[c])
 |[],_,_,h=> .inl h
 |_::_,_,_,h=> .inr ⟨rfl,Qw h⟩
structure oR(g:af→List af)(a:af)(l:List af):Prop where
 c:je g a l
 s:∀ m,je g a m→l.length≤m.length
 m:∀ m,je g a m→m.length=l.length→m=l∨lx l m
theorem oR.uniq{g:af→List af}{a:af}{l m:List af}(h:oR g a l)(k:oR g a m):l=m:=by
 have h1:=h.s _ k.c
 have h2:=k.s _ h.c
 rcases h.m _ k.c (by omega)with e|e
 ·exact e.symm
 ·rcases k.m _ h.c (by omega)with e'|e'
  ·exact e'
  ·exact absurd (DT e e') Qv
def ext1(p:List af):List af→List (List af)×List af→List (List af)×List af
 |[],s=>s
 |n::l,s=>ext1 p l (if n∈s.2 then s else(s.1++[p++[n]],s.2++[n]))
def jj(g:af→List af)(a:af):List (List af)→List (List af)×List af→List (List af)×List af
 |[],s=>s
 |p::l,s=>jj g a l (ext1 p (g (bB a p)) s)
theorem Gm(p:List af)(n:af):∀ (l:List af) (s:List (List af)×List af),ext1 p (l++[n]) s=if n∈(ext1 p l s).2 then ext1 p l s else((ext1 p l s).1++[p++[n]],(ext1 p l s).2++[n])
 |[],s=>rfl
 |x::l,s=>Gm p n l _
theorem Gn(g:af→List af)(a:af)(p:List af):∀ (l:List (List af)) (s:List (List af)×List af),jj g a (l++[p]) s=ext1 p (g (bB a p)) (jj g a l s)
 |[],s=>rfl
 |x::l,s=>Gn g a p l _
structure lH(g:af→List af)(a:af)(k:Nat)(D:List (List af))(T:List af)(s:List (List af)×List af):Prop where
 p:∀ q∈s.1,∃ r∈D,∃ n,q=r++[n]∧n∈g (bB a r)
 n:∀ x,x∈s.2↔x∈T∨∃ q∈s.1,bB a q=x
 d:s.2.Nodup
 o:s.1.Pairwise lx
 l:s.2.length=T.length+s.1.length
theorem lH.start{g:af→List af}{a:af}{k:Nat}{T:List af}(h:T.Nodup):lH g a k [] T ([],T):=
 ⟨fun q hq=>(by cases hq),fun x=>⟨.inl,fun h=>by rcases h with h|⟨q,hq,_⟩;exact h;cases hq⟩,h,.nil,by simp⟩
theorem lH.wider{g:af→List af}{a:af}{k:Nat}{D D':List (List af)}{T:List af}{s:List (List af)×List af}(h:lH g a k D T s)(hD:∀ r∈D,r∈D'):lH g a k D' T s:=
 ⟨fun q hq=>by obtain⟨r,hr,n,h1⟩:=h.p q hq;exact⟨r,hD r hr,n,h1⟩,h.n,h.d,h.o,h.l⟩
theorem lH.ext1{g:af→List af}{a:af}{k:Nat}{D:List (List af)}{T:List af}{p:List af}(hp:p∈D)(hlen:∀ r∈D,r.length=k)(De:∀ r∈D,r=p∨lx r p):
  ∀ (l:List af) (s:List (List af)×List af),lH g a k D T s→(∀ n∈l,n∈g (bB a p))→cC l→(∀ q∈s.1,∀ n∈l,lx q (p++[n]))→lH g a k D T (Go.Proofs.YthdeaajdmdmfnaaGreatDoor.ext1 p l s)
 |[],s,h,_,_,_=>h
 |n::l,s,h,hg,hs,hq=>by
  have om:=XN.1 hs
  rw[Go.Proofs.YthdeaajdmdmfnaaGreatDoor.ext1]
  by_cases hm:n∈s.2
  ·rw[ZV hm]
   exact lH.ext1 hp hlen De l s h (fun x hx=>hg x (by simp[hx])) om.2 fun q oh x hx=>hq q oh x (by simp[hx])
  ·rw[Z7 hm]
   refine lH.ext1 hp hlen De l _ ⟨fun q oh=> ?_,fun x=> ?_,?_,?_,by have:=h.l;simp only[Z4,YB];omega⟩ (fun x hx=>hg x (by simp[hx])) om.2 ?_
   ·rcases Zy.1 oh with h1|h1
    ·exact h.p q h1
    ·rw[Zg]at h1;subst h1
     exact⟨p,hp,n,rfl,hg n (by simp)⟩
   ·have:=h.n x
    simp only[Zy,Zg]
    rw[this]
    constructor
    ·rintro((h1|⟨q,h1,h2⟩)|rfl)
     ·exact .inl h1
     ·exact .inr ⟨q,.inl h1,h2⟩
     ·exact .inr ⟨_,.inr rfl,x7 _ _ _⟩
    ·rintro(h1|⟨q,h1|rfl,h2⟩)
     ·exact .inl (.inl h1)
     ·exact .inl (.inr ⟨q,h1,h2⟩)
     ·rw[x7]at h2;exact .inr h2.symm
   ·exact XJ.2 ⟨h.d,by simp,fun x hx y hy e=>by rw[Zg]at hy;subst hy;subst e;exact hm hx⟩
   ·refine XD.2 ⟨h.o,by simp,fun q oh y hy=> ?_⟩
    rw[Zg]at hy;subst hy
    exact hq q oh n (by simp)
   ·intro q oh x hx
    rcases Zy.1 oh with h1|h1
    ·exact hq q h1 x (by simp[hx])
    ·rw[Zg]at h1;subst h1
     exact Qw (om.1 x hx)
theorem Gl{p:List af}:∀ (l:List af) (s:List (List af)×List af) (x:af),x∈s.2∨x∈l→x∈(ext1 p l s).2
 |[],s,x,h=>by
  rcases h with h|h
  ·exact h
  ·cases h
 |n::l,s,x,h=>by
  rw[ext1]
  refine Gl l _ x ?_
  rcases h with h|h
  ·left;split
   ·exact h
   ·exact Zm _ h
  ·rcases ZK.1 h with rfl|h
   ·left;split
    ·assumption
    ·simp
   ·exact .inr h
theorem M7{p:List af}:∀ (l:List af) (s:List (List af)×List af) (q:List af),q∈s.1→q∈(ext1 p l s).1
 |[],s,q,h=>h
 |n::l,s,q,h=>by
  rw[ext1]
  refine M7 l _ q ?_
  split
  ·exact h
  ·exact Zm _ h
structure jd(g:af→List af)(a:af)(k:Nat)(P:List (List af))(S:List af):Prop where
 p:∀ q∈P,eW g a q∧q.length=k
 o:P.Pairwise lx
 d:S.Nodup
 r:∀ x∈S,∃ q,eW g a q∧bB a q=x∧q.length≤k
 no:∀ q,je g a q→k≤q.length
 c:∀ q,eW g a q→q.length=k→∃ r,eW g a r∧bB a r=bB a q∧(r.length<k∨r∈P∧(r=q∨lx r q))
 z:P≠[]→k≤S.length
theorem jd.start(g:af→List af)(a:af):jd g a 0 [[]] []:=
 ⟨fun q hq=>by rw[Zg]at hq;subst hq;exact⟨trivial,rfl⟩,by simp,.nil,fun x hx=>(by cases hx),fun _ _=>ZM _,
  fun q hq hl=>⟨[],trivial,by rw[Zt hl],.inr ⟨by simp,.inl (Zt hl).symm⟩⟩,fun _=>ZM _⟩
theorem jd.found{g:af→List af}{a:af}{k:Nat}{P:List (List af)}{S:List af}(h:jd g a k P S){i:Nat}{p:List af}(hi:P[i]? =some p)(hc:a∈g (bB a p))(hn:∀ j,j<i→∀ q,P[j]? =some q→a∉g (bB a q)):oR g a p:=by
 obtain⟨cD,rfl⟩:=ZE.1 hi
 obtain⟨h1,h2⟩:=h.p _ (Zf cD)
 refine⟨⟨h1,hc⟩,fun m hm=>by rw[h2];exact h.no m hm,fun m hm hl=> ?_⟩
 obtain⟨r,hr,e,dQ⟩:=h.c m hm.1 (hl.trans h2)
 have uO:je g a r:=⟨hr,by rw[e];exact hm.2⟩
 rcases dQ with dQ|⟨dQ,lW⟩
 ·have:=h.no r uO;omega
 ·obtain⟨j,hj,rfl⟩:=YG dQ
  have gd:i≤j:=by
   rcases YU j i with aw|pw
   ·exact absurd uO.2 (hn j aw _ (Z1 hj))
   ·exact pw
  rcases Nat.eq_or_lt_of_le gd with rfl|aw
  ·rcases lW with e'|e'
   ·exact .inl e'.symm
   ·exact .inr e'
  ·have:=X5.1 h.o i j cD hj aw
   rcases lW with e'|e'
   ·rw[← e'];exact .inr this
   ·exact .inr (DT this e')
theorem Na{g:af→List af}(hg:∀ n,cC (g n)){a:af}{k:Nat}{T:List af}(hT:T.Nodup):∀ (P:List (List af)),(∀ q∈P,q.length=k)→P.Pairwise lx→
  lH g a k P T (jj g a P ([],T)):=by
 intro P
 induction hP:P.length generalizing P with
 |zero=>intro _ _;rw[Zt hP];exact lH.start hT
 |succ n ih=>
  intro hl ho
  obtain⟨Q,p,rfl⟩:∃ Q p,P=Q++[p]:=⟨P.dropLast,P.getLast (by intro e;subst e;simp at hP),(List.dropLast_concat_getLast _).symm⟩
  have xH:=XD.1 ho
  have h:=ih Q (by simpa using hP) (fun q hq=>hl q (Zm _ hq)) xH.1
  rw[Gn]
  have De:∀ r∈Q++[p],r=p∨lx r p:=fun r hr=>by
   rcases Zy.1 hr with h1|h1
   ·exact .inr (xH.2.2 r h1 p (by simp))
   ·exact .inl (by simpa using h1)
  refine lH.ext1 (D:=Q++[p]) (by simp) hl De _ _ (h.wider fun r hr=>Zm _ hr) (fun n hn=>hn) (hg _) fun q hq n hn=> ?_
  obtain⟨r,hr,m,rfl,_⟩:=h.p q hq
  have h1:=hl r (Zm _ hr)
  have h2:=hl p (by simp)
  exact DS (by omega) (xH.2.2 r hr p (by simp))
theorem aaV{g:af→List af}{a:af}:∀ (P Q:List (List af)) (p:List af) (n:af) (s:List (List af)×List af),n∈g (bB a p)→n∈(jj g a (P++p::Q) s).2:=by
 have az:∀ (Q:List (List af)) (s:List (List af)×List af) (n:af),n∈s.2→n∈(jj g a Q s).2:=by
  intro Q
  induction Q with
  |nil=>intro s n h;exact h
  |cons q Q ih=>intro s n h;exact ih _ _ (Gl _ _ _ (.inl h))
 intro P
 induction P with
 |nil=>intro Q p n s h;exact az Q (ext1 p (g (bB a p)) s) n (Gl _ _ _ (.inr h))
 |cons q P ih=>intro Q p n s h;exact ih Q p n _ h
theorem M8(g:af→List af)(a:af):∀ (P Q:List (List af)) (s:List (List af)×List af),jj g a (P++Q) s=jj g a Q (jj g a P s)
 |[],_,_=>rfl
 |_::P,Q,_=>M8 g a P Q _
theorem Nb{g:af→List af}{a:af}:∀ (Q:List (List af)) (s:List (List af)×List af) (q:List af),q∈s.1→q∈(jj g a Q s).1
 |[],_,_,h=>h
 |_::Q,s,q,h=>Nb Q _ q (M7 _ _ q h)
theorem aaW{g:af→List af}(hg:∀ n,cC (g n)){a:af}{k:Nat}{T:List af}(hT:T.Nodup){P:List (List af)}(hl:∀ q∈P,q.length=k)(ho:P.Pairwise lx){r:List af}(hr:r∈P){n:af}(hn:n∈g (bB a r)):
  n∈T∨∃ q∈(jj g a P ([],T)).1,bB a q=n∧(q=r++[n]∨lx q (r++[n])):=by
 obtain⟨Q,Q',rfl⟩:=List.append_of_mem hr
 have e:Q++r::Q'=(Q++[r])++Q':=by simp
 rw[e]at hl ho ⊢
 have xH:=XD.1 ho
 have hL:=Na hg hT (a:=a) (Q++[r]) (fun q hq=>hl q (Zm _ hq)) xH.1
 have hs:=aaV Q [] r n ([],T) hn
 rw[M8]
 rcases(hL.n n).1 hs with h|⟨q,hq,h⟩
 ·exact .inl h
 ·refine .inr ⟨q,Nb _ _ q hq,h,?_⟩
  obtain⟨r1,ey,m,rfl,_⟩:=hL.p q hq
  rw[x7]at h;subst h
  rcases Zy.1 ey with h1|h1
  ·have h2:=(XD.1 xH.1).2.2 r1 h1 r (by simp)
   refine .inr (DS ?_ h2)
   rw[hl r1 (by simp[h1]),hl r (by simp)]
  ·rw[Zg]at h1;subst h1;exact .inl rfl
theorem jd.next{g:af→List af}(hg:∀ n,cC (g n)){a:af}{k:Nat}{P:List (List af)}{S:List af}(h:jd g a k P S)(hn:∀ q∈P,a∉g (bB a q)):jd g a (k+1) (jj g a P ([],S)).1 (jj g a P ([],S)).2:=by
 have hL:=Na hg (a:=a) (k:=k) h.d P (fun q hq=>(h.p q hq).2) h.o
 have hp:∀ q∈(jj g a P ([],S)).1,eW g a q∧q.length=k+1:=fun q hq=>by
  obtain⟨r,hr,n,rfl,hn⟩:=hL.p q hq
  obtain⟨h1,h2⟩:=h.p r hr
  exact⟨h1.snoc hn,by simp[h2]⟩
 refine⟨hp,hL.o,hL.d,fun x hx=> ?_,fun q hq=> ?_,fun q hq hl=> ?_,fun aE=> ?_⟩
 ·rcases(hL.n x).1 hx with h1|⟨q,h1,h2⟩
  ·obtain⟨q,g1,g2,g3⟩:=h.r x h1
   exact⟨q,g1,g2,by omega⟩
  ·obtain⟨g1,g2⟩:=hp q h1
   exact⟨q,g1,h2,by omega⟩
 ·have h1:=h.no q hq
  rcases Nat.eq_or_lt_of_le h1 with e|e
  ·obtain⟨r,hr,e1,dQ⟩:=h.c q hq.1 e.symm
   have uO:je g a r:=⟨hr,by rw[e1];exact hq.2⟩
   rcases dQ with dQ|⟨dQ,_⟩
   ·have:=h.no r uO;omega
   ·exact absurd uO.2 (hn r dQ)
  ·exact e
 ·obtain⟨q0,n,rfl⟩:∃ q0 n,q=q0++[n]:=⟨q.dropLast,q.getLast (by intro e;subst e;simp at hl),(List.dropLast_concat_getLast _).symm⟩
  have IP:=hq.left
  have jq:n∈g (bB a q0):=hq.right.1
  have kV:q0.length=k:=by simpa using hl
  obtain⟨r,hr,e1,dQ⟩:=h.c q0 IP kV
  rw[← e1]at jq
  rw[x7]
  rcases dQ with dQ|⟨dQ,lW⟩
  ·exact⟨r++[n],hr.snoc jq,x7 _ _ _,.inl (by simp;omega)⟩
  ·have hlr:=(h.p r dQ).2
   rcases aaW hg (a:=a) (k:=k) h.d (fun q hq=>(h.p q hq).2) h.o dQ jq with h1|⟨q1,h1,h2,h3⟩
   ·obtain⟨q1,g1,g2,g3⟩:=h.r n h1
    exact⟨q1,g1,g2,.inl (by omega)⟩
   ·refine⟨q1,(hp q1 h1).1,h2,.inr ⟨h1,?_⟩⟩
    have h4:r++[n]=q0++[n]∨lx (r++[n]) (q0++[n]):=by
     rcases lW with rfl|h5
     ·exact .inl rfl
     ·exact .inr (DS (by omega) h5)
    rcases h3 with rfl|h3
    ·exact h4
    ·rcases h4 with h4|h4
     ·rw[← h4];exact .inr h3
     ·exact .inr (DT h3 h4)
 ·have h1:=hL.l
  have h2:0<(jj g a P ([],S)).1.length:=XZ.2 aE
  have h3:P≠[]:=by
   intro e;subst e;exact aE rfl
  have:=h.z h3
  omega
theorem jd.none{g:af→List af}{a:af}{k:Nat}{S:List af}(h:jd g a k [] S):∀ q,¬je g a q:=by
 have key:∀ (n:Nat) (q:List af),q.length=n→¬je g a q:=by
  intro n
  induction n using Nat.strongRecOn with
  |ind n ih=>
   intro q hl hq
   have h1:=h.no q hq
   have e:q=q.take k++q.drop k:=(Y7 k q).symm
   have hp:=hq.1
   rw[e]at hp
   obtain⟨r,hr,e1,dQ⟩:=h.c (q.take k) hp.left (by rw[Zx];omega)
   rcases dQ with dQ|⟨dQ,_⟩
   ·refine ih (r++q.drop k).length (by rw[Z4,YQ];omega) (r++q.drop k) rfl ⟨hr.app (by rw[e1];exact hp.right),?_⟩
    rw[JB,e1,← JB,Y7]
    exact hq.2
   ·cases dQ
 exact fun q hq=>key q.length q rfl hq
theorem jd.sub{g:af→List af}{a:af}{k:Nat}{P:List (List af)}{S:List af}(h:jd g a k P S){N:List af}(hN:∀ x y,y∈g x→y∈N)(hd:∀ x∈S,∃ y,x∈g y):S.length≤N.length:=
 jU h.d fun x hx=>by obtain⟨y,hy⟩:=hd x hx;exact hN y x hy
structure Lh(g:af→List af)(b:af)(d:af→Nat):Prop where
 r:∀ x,d x<1000→iI g (d x) x b
 l:∀ k x,iI g k x b→d x≤k
inductive yK(g:af→List af)(d:af→Nat):Nat→af→List af→Prop
 |nil {a:af}:yK g d 0 a []
 |cons {n:Nat} {a b:af} {l:List af} (h:(g a).find? (fun x=>decide (d x=n+1))=some b) (t:yK g d n b l):yK g d (n+1) a (b::l)
theorem yK.len{g:af→List af}{d:af→Nat}{n:Nat}{a:af}{l:List af}(h:yK g d n a l):l.length=n:=by
 induction h with
 |nil=>rfl
 |cons _ _ ih=>simp[ih]
theorem Lh.next{g:af→List af}{b:af}{d:af→Nat}(hd:Lh g b d){n:Nat}{a:af}(ha:d a=n+2)(h1:d a<1000):∃ c,(g a).find? (fun x=>decide (d x=n+1))=some c:=by
 have h2:=hd.r a h1
 rw[ha]at h2
 cases h2 with
 |cons h t=>
  rename_i c
  have h3:=hd.l _ _ t
  have h4:n+1≤d c:=by
   rcases YU (d c) (n+1)with aw|pw
   ·have:=hd.l _ _ (iI.cons h (hd.r c (by omega)))
    omega
   ·exact pw
  cases h5:(g a).find? (fun x=>decide (d x=n+1))with
  |some c=>exact⟨c,rfl⟩
  |none=>
   have:=List.find?_eq_none.1 h5 c h
   exact absurd (by simp;omega) this
def vq(fs:List aq)(n:af):Bool:=(findF fs n).isSome
theorem Pn{fs:List aq}{n:af}:vq fs n=true↔∃ f∈fs,f.name=n:=by
 unfold vq findF
 rw[List.find?_isSome]
 simp
def tx:List aq→List af→List af
 |[],l=>l
 |f::fs,l=>tx fs (jw l f.name)
theorem Rq{x:af}:∀ {fs:List aq} {l:List af},x∈tx fs l↔(∃ f∈fs,f.name=x)∨x∈l
 |[],l=>by simp[tx]
 |f::fs,l=>by
  rw[tx,Rq (fs:=fs),ye]
  simp only[ZK,exists_eq_or_imp]
  grind
theorem Rr:∀ {fs:List aq} {l:List af},cC l→cC (tx fs l)
 |[],_,h=>h
 |_::fs,_,h=>Rr (fs:=fs) (A6 h)
theorem vX:cC []:=List.Pairwise.nil
def cR(fs:List aq):List af:=tx fs []
theorem QH(fs:List aq):cC (cR fs):=Rr vX
theorem x8{fs:List aq}{n:af}:n∈cR fs↔vq fs n=true:=by
 rw[Pn];unfold cR;rw[Rq];simp
theorem Rp:∀ (fs:List aq) (l:List af),(tx fs l).length≤l.length+fs.length
 |[],l=>ZX _
 |f::fs,l=>by
  have h1:=Rp fs (jw l f.name)
  have h2:∀ (l:List af) (s:af),(jw l s).length≤l.length+1:=fun l s=>by
   induction l with
   |nil=>simp[jw]
   |cons a l ih=>
    unfold jw
    split
    ·simp only[ZS];omega
    ·split
     ·simp
     ·simp
  have h3:=h2 l f.name
  rw[tx,ZS];omega
theorem JI(fs:List aq):(cR fs).length≤fs.length:=by have:=Rp fs [];simpa[cR]using this
def zo(x:Ex):List af:=(lN x ([],[])).1
theorem MG{x:Ex}{s:af}:s∈zo x↔s∈x.bS:=by rw[zo,(Cp x ([],[])).1];simp
theorem MH(x:Ex):cC (zo x):=(Cq x ([],[]) vX vX).1
def deps(fs:List aq)(n:af):List af:=match findF fs n with
 |some f=>(zo f.body).filter (vq fs)
 |none=>[]
theorem ais{l:List af}{p:af→Bool}(h:cC l):cC (l.filter p):=List.Pairwise.filter _ h
theorem Ge(fs:List aq)(n:af):cC (deps fs n):=by
 unfold deps;split
 ·exact ais (MH _)
 ·exact vX
theorem MC{fs:List aq}{n m:af}:m∈deps fs n↔∃ f,findF fs n=some f∧m∈f.body.bS∧vq fs m=true:=by
 unfold deps
 split
 ·rename_i f h
  rw[Ze,MG]
  constructor
  ·intro h1;exact⟨f,h,h1⟩
  ·rintro⟨f',h1,h2⟩;rw[h]at h1;cases h1;exact h2
 ·rename_i h
  constructor
  ·intro h1;cases h1
  ·rintro⟨f',h1,h2⟩;rw[h]at h1;cases h1
theorem zm{fs:List aq}{n m:af}(h:m∈deps fs n):m∈cR fs:=by
 obtain⟨_,_,_,h⟩:=MC.1 h;exact x8.2 h
def ready(g:af→List af)(out:List af)(n:af):Bool:=decide (n∉out) && (g n).all fun m=>decide (m∈out)
def D9(g:af→List af)(N out:List af):Option af:=N.find? (ready g out)
def A2(g:af→List af)(N:List af):Nat→List af→List af
 |0,out=>out
 |k+1,out=>match D9 g N out with
  |some n=>A2 g N k (out++[n])
  |none=>out
def Q2(g:af→List af)(N:List af):List af:=A2 g N N.length []
structure nI(g:af→List af)(N out:List af):Prop where
 d:out.Nodup
 s:∀ x∈out,x∈N
 e:Q2 g N=A2 g N (N.length-out.length) out
 b:∀ i (hi:i<out.length),∀ m∈g out[i],m∈out.take i
theorem nI.start(g:af→List af)(N:List af):nI g N []:=⟨.nil,fun x h=>(by cases h),rfl,fun i hi=>absurd hi (by simp)⟩
theorem J0{g:af→List af}{out:List af}{n:af}:ready g out n=true↔n∉out∧∀ m∈g n,m∈out:=by
 unfold ready;simp
theorem nI.len{g:af→List af}{N out:List af}(h:nI g N out):out.length≤N.length:=jU h.d h.s
theorem nI.step{g:af→List af}{N out:List af}{n:af}(h:nI g N out)(hn:D9 g N out=some n):nI g N (out++[n])∧out.length<N.length:=by
 have h1:=List.mem_of_find?_eq_some hn
 obtain⟨h2,h3⟩:=J0.1 (List.find?_some hn)
 have hd:(out++[n]).Nodup:=XJ.2 ⟨h.d,by simp,fun x hx y hy e=>by rw[Zg]at hy;subst hy;subst e;exact h2 hx⟩
 have hs:∀ x∈out++[n],x∈N:=fun x hx=>by
  rcases Zy.1 hx with hx|hx
  ·exact h.s x hx
  ·rw[Zg]at hx;subst hx;exact h1
 have hl:=jU hd hs
 rw[Z4,YB]at hl
 refine⟨⟨hd,hs,?_,fun i hi m hm=> ?_⟩,hl⟩
 ·rw[h.e,show N.length-out.length=(N.length-(out++[n]).length)+1 by rw[Z4,YB];omega,A2,hn]
 ·by_cases kq:i<out.length
  ·rw[Yf kq]at hm
   rw[Za (by omega)]
   exact h.b i kq m hm
  ·have e:i=out.length:=by simp at hi;omega
   subst e
   rw[YM (by omega)]at hm
   simp at hm
   rw[List.take_left]
   exact h3 m hm
theorem nI.done{g:af→List af}{N out:List af}(h:nI g N out)(hn:D9 g N out=none):out=Q2 g N:=by
 rw[h.e]
 cases hk:N.length-out.length with
 |zero=>rfl
 |succ k=>rw[A2,hn]
def wD(g:af→List af)(N l:List af):Prop:=
 (l=[]∧∀ a∈N,∀ q,¬je g a q)∨∃ a q,l=a::q∧a∈N∧oR g a q∧(∀ b∈N,dU b a=true→∀ m,je g b m→q.length<m.length)∧∀ b∈N,∀ m,je g b m→q.length≤m.length
theorem wD.uniq{g:af→List af}{N l l':List af}(h:wD g N l)(k:wD g N l'):l=l':=by
 rcases h with⟨rfl,h⟩|⟨a,q,rfl,ha,hb,h1,h2⟩<;>rcases k with⟨rfl,k⟩|⟨b,m,rfl,kb,kc,k1,k2⟩
 ·rfl
 ·exact absurd kc.c (h b kb m)
 ·exact absurd hb.c (k a ha q)
 ·have e:a=b:=by
   by_cases e1:dU a b=true
   ·have:=k1 a ha e1 q hb.c
    have:=h2 b kb m kc.c
    omega
   ·by_cases e2:dU b a=true
    ·have:=h1 b kb e2 m kc.c
     have:=k2 a ha q hb.c
     omega
    ·exact Kg (by simpa using e1) (by simpa using e2)
  subst e
  rw[hb.uniq kc]
open Classical in
noncomputable def qm(g:af→List af)(N:List af):List af:=if h:∃ l,wD g N l then h.choose else[]
theorem MA{g:af→List af}{N l:List af}(h:wD g N l):qm g N=l:=by
 have h':∃ l,wD g N l:=⟨l,h⟩
 unfold qm;rw[dif_pos h']
 exact h'.choose_spec.uniq h
def jB(g:af→List af)(N:List af)(i:Nat)(l:List af):Prop:=
 (l=[]∧∀ j (hj:j<N.length),j<i→∀ q,¬je g N[j] q)∨
  ∃ (k:Nat) (hk:k<N.length) (q:List af),k<i∧l=N[k]::q∧oR g N[k] q∧(∀ j (hj:j<N.length),j<k→∀ m,je g N[j] m→q.length<m.length)∧∀ j (hj:j<N.length),j<i→∀ m,je g N[j] m→q.length≤m.length
theorem jB.start(g:af→List af)(N:List af):jB g N 0 []:= .inl ⟨rfl,fun j _ h=>absurd h (by omega)⟩
theorem jB.none{g:af→List af}{N l:List af}{i:Nat}(h:jB g N i l)(hi:i<N.length)(hn:∀ q,¬je g N[i] q):jB g N (i+1) l:=by
 rcases h with⟨rfl,h⟩|⟨k,hk,q,h1,rfl,h2,h3,h4⟩
 ·refine .inl ⟨rfl,fun j hj aw q=> ?_⟩
  rcases X9 (X3 aw)with h5|rfl
  ·exact h j hj h5 q
  ·exact hn q
 ·refine .inr ⟨k,hk,q,by omega,rfl,h2,h3,fun j hj aw m hm=> ?_⟩
  rcases X9 (X3 aw)with h5|rfl
  ·exact h4 j hj h5 m hm
  ·exact absurd hm (hn m)
theorem jB.skip{g:af→List af}{N l p:List af}{i:Nat}(h:jB g N i l)(hi:i<N.length)(hb:oR g N[i] p)(hl:l≠[])(hle:l.length≤p.length+1):jB g N (i+1) l:=by
 rcases h with⟨rfl,h⟩|⟨k,hk,q,h1,rfl,h2,h3,h4⟩
 ·exact absurd rfl hl
 ·refine .inr ⟨k,hk,q,by omega,rfl,h2,h3,fun j hj aw m hm=> ?_⟩
  rcases X9 (X3 aw)with h5|rfl
  ·exact h4 j hj h5 m hm
  ·have:=hb.s m hm
   simp only[ZS]at hle
   omega
theorem jB.take{g:af→List af}{N l p:List af}{i:Nat}(h:jB g N i l)(hi:i<N.length)(hb:oR g N[i] p)(aw:l=[]∨p.length+1<l.length):jB g N (i+1) (N[i]::p):=by
 refine .inr ⟨i,hi,p,by omega,rfl,hb,fun j hj il m hm=> ?_,fun j hj il m hm=> ?_⟩
 ·rcases h with⟨rfl,h⟩|⟨k,hk,q,h1,rfl,h2,h3,h4⟩
  ·exact absurd hm (h j hj il m)
  ·have:=h4 j hj il m hm
   rcases aw with e|e
   ·cases e
   ·simp only[ZS]at e;omega
 ·rcases X9 (X3 il)with h5|rfl
  ·rcases h with⟨rfl,h⟩|⟨k,hk,q,h1,rfl,h2,h3,h4⟩
   ·exact absurd hm (h j hj h5 m)
   ·have:=h4 j hj h5 m hm
    rcases aw with e|e
    ·cases e
    ·simp only[ZS]at e;omega
  ·exact hb.s m hm
theorem jB.done{g:af→List af}{N l:List af}(hN:cC N)(h:jB g N N.length l):l=qm g N:=by
 refine(MA ?_).symm
 have lt:∀ (k:Nat) (hk:k<N.length) (j:Nat) (hj:j<N.length),dU N[j] N[k]=true→j<k:=fun k hk j hj h=>by
  rcases YU j k with h1|h1
  ·exact h1
  ·rcases Nat.eq_or_lt_of_le h1 with rfl|h2
   ·rw[tE]at h;cases h
   ·have:=X5.1 hN k j hk hj h2
    rw[R4 this]at h;cases h
 rcases h with⟨rfl,h⟩|⟨k,hk,q,h1,rfl,h2,h3,h4⟩
 ·refine .inl ⟨rfl,fun a ha q=> ?_⟩
  obtain⟨j,hj,rfl⟩:=YG ha
  exact h j hj hj q
 ·refine .inr ⟨_,q,rfl,Zf _,h2,fun b hb aw m hm=> ?_,fun b hb m hm=> ?_⟩
  ·obtain⟨j,hj,rfl⟩:=YG hb
   exact h3 j hj (lt k hk j hj aw) m hm
  ·obtain⟨j,hj,rfl⟩:=YG hb
   exact h4 j hj hj m hm
end Go.Proofs.YthdeaajdmdmfnaaGreatDoor
set_option maxHeartbeats 4000000
namespace Go.Proofs.YthdeaajdmdmfnaaGreatDoor
open Go.Sx Go.Proofs
theorem zw(p:aq→Bool):∀ (l:List aq) (k:Nat),(l.find? p=none∧firstIdx p l k= -1)∨∃ i:Nat,i<l.length∧firstIdx p l k=((k+i:Nat):Int)∧l.find? p=some (l.getD i default)
 |[],k=> .inl ⟨rfl,rfl⟩
 |x::l,k=>by
  unfold firstIdx
  by_cases h:p x=true
  ·exact .inr ⟨0,by simp,by simp[h],by simp[h]⟩
  ·rcases zw p l (k+1)with⟨h1,h2⟩|⟨i,h1,h2,h3⟩
   ·exact .inl ⟨by simp[h,h1],by simp[h,h2]⟩
   ·exact .inr ⟨i+1,by simpa using h1,by rw[Z7 h,h2];omega,by simp[h,h3]⟩
end Go.Proofs.YthdeaajdmdmfnaaGreatDoor
