/- Maps keyed by names, in the walk's words: which names stand there, and what stands at each; slices of names. -/
import Derived.Maps.OwnSet
import Derived.Maps.OwnOps
import Derived.Maps.RangeWalk
import Derived.Sort.MapsRangeIn
import Derived.Sort.KeysCollected
import Derived.Carry
import Derived.OwnWalk
import Derived.Maps.AppendAt
import Derived.WalkKit
import Derived.Laws.AppendOwn
import Derived.Laws.Slices
set_option linter.unusedSimpArgs false
set_option linter.unusedVariables false
set_option linter.unusedSectionVars false
namespace Go.Tb
open Go.Maps Go.RowKit
open Go.Proofs (encStr)
instance (s:ByteArray)(L:List ByteArray):Decidable (s∈L):= @List.instDecidableMemOfLawfulBEq _ instBEqOfDecidableEq inferInstance s L
def ky(s:ByteArray):Lit:= .string s.data.toList
theorem ky_key(s:ByteArray):WideAt.IsKeyLit (ky s):=trivial
theorem ba_ext{a b:ByteArray}(h:a.data.toList=b.data.toList):a=b:=by
 cases a;cases b;simp only[ByteArray.mk.injEq];exact Array.toList_inj.1 h
theorem ky_inj{a b:ByteArray}(h:ky a=ky b):a=b:=ba_ext (by simpa[ky]using h)
theorem ky_ne{a b:ByteArray}(h:a≠b):ky a≠ky b:=fun e=>h (ky_inj e)
def tbl(w:World)(P:Program)(k:TypeId)(R:Value→Option (DataW Unit×List MemPlace))(b:Nat)(L:List ByteArray)(f:ByteArray→DataW Unit):Prop:=
 L.Nodup∧(∀ s∈L,s.size≤maxLen)∧∃ D,w.ownsMap P k R b L.length D∧(∀ s,s.size≤maxLen→has D (ky s)=decide (s∈L))∧∀ s∈L,∀ z,D.atKey (ky s) z=f s
def ins(L:List ByteArray)(s:ByteArray):List ByteArray:=if s∈L then L else L++[s]
theorem ins_mem{L:List ByteArray}{s x:ByteArray}:x∈ins L s↔x=s∨x∈L:=by
 unfold ins
 split
 ·rename_i h;constructor
  ·exact .inr
  ·rintro(rfl|h');exact h;exact h'
 ·simp[or_comm]
theorem ins_nodup{L:List ByteArray}{s:ByteArray}(h:L.Nodup):(ins L s).Nodup:=by
 unfold ins
 split
 ·exact h
 ·rename_i hn
  exact List.nodup_append.2 ⟨h,by simp,fun a ha b hb e=>by rw[List.mem_singleton]at hb;subst hb;subst e;exact hn ha⟩
theorem ins_len(L:List ByteArray)(s:ByteArray):(ins L s).length≤L.length+1:=by unfold ins;split<;>simp
def insAll(L:List ByteArray)(l:List ByteArray):List ByteArray:=l.foldl ins L
theorem insAll_mem{x:ByteArray}:∀ {l L:List ByteArray},x∈insAll L l↔x∈l∨x∈L
 |[],L=>by simp[insAll]
 |s::l,L=>by
  rw[show insAll L (s::l)=insAll (ins L s) l from rfl,insAll_mem (l:=l),ins_mem,List.mem_cons];grind
theorem insAll_nodup:∀ {l L:List ByteArray},L.Nodup→(insAll L l).Nodup
 |[],L,h=>h
 |s::l,L,h=>insAll_nodup (l:=l) (ins_nodup h)
theorem insAll_len:∀ (l L:List ByteArray),(insAll L l).length≤L.length+l.length
 |[],L=>Nat.le_refl _
 |s::l,L=>by
  have h1:=insAll_len l (ins L s)
  have h2:=ins_len L s
  simp only[List.length_cons]
  exact Nat.le_trans h1 (by omega)
theorem insAll_app(L a b:List ByteArray):insAll L (a++b)=insAll (insAll L a) b:=List.foldl_append
section
variable {P:Program}{k:TypeId}{R:Value→Option (DataW Unit×List MemPlace)}{w:World}{b:Nat}{L:List ByteArray}{f:ByteArray→DataW Unit}
theorem tbl.lt(h:tbl w P k R b L f):b<w.heap.size:=let⟨_,_,_,h,_⟩:=h;h.lt
theorem tbl.isMap(h:tbl w P k R b L f):∃ es c,w.heap[b]? =some (.map es c):=by
 obtain⟨_,_,D,⟨es,c,h,_⟩,_⟩:=h;exact⟨es,c,h⟩
theorem tbl_made(w:World)(P:Program)(k:TypeId)(R:Value→Option (DataW Unit×List MemPlace))(f:ByteArray→DataW Unit):tbl (w.alloc (.map #[] 0)) P k R w.heap.size [] f:=
 ⟨List.nodup_nil,(fun s h=>nomatch h),_,World.ownsMap_made w P k R,(fun s _=>by simp[has]),(fun s h=>nomatch h)⟩
theorem tbl.kept{w':World}{row:Option Nat}(h:tbl w P k R b L f)(hg:w.grownBy w' row)(hne:some b≠row):tbl w' P k R b L f:=by
 obtain⟨h1,h2,D,h3,h4,h5⟩:=h;exact⟨h1,h2,D,h3.kept hg hne,h4,h5⟩
theorem tbl.alloc(h:tbl w P k R b L f)(o:Obj):tbl (w.alloc o) P k R b L f:=h.kept (World.grownBy_alloc w o none) (by simp)
theorem tbl.block{w':World}(h:tbl w P k R b L f)(hb:w'.heap[b]? =w.heap[b]?):tbl w' P k R b L f:=by
 obtain⟨h1,h2,D,⟨es,c,h3,h6⟩,h4,h5⟩:=h;exact⟨h1,h2,D,⟨es,c,hb.trans h3,h6⟩,h4,h5⟩
theorem tbl.congr{f':ByteArray→DataW Unit}(h:tbl w P k R b L f)(hf:∀ s∈L,f s=f' s):tbl w P k R b L f':=by
 obtain⟨h1,h2,D,h3,h4,h5⟩:=h;exact⟨h1,h2,D,h3,h4,fun s hs z=>(h5 s hs z).trans (hf s hs)⟩
theorem tbl.store{w':World}{s:ByteArray}{D:DataW Unit}{d:DataW Unit}(h1:L.Nodup)(h2:∀ s∈L,s.size≤maxLen)(hm:IsMap D)(h4:∀ s,s.size≤maxLen→has D (ky s)=decide (s∈L))(h5:∀ s∈L,∀ z,D.atKey (ky s) z=f s)
  (hs:s.size≤maxLen) (h:w'.ownsMap P k R b (L.length+1) (D.put (ky s) d)) (K:Keyed P k) (hT:Tidy D) (hn:size D≤L.length):tbl w' P k R b (ins L s) (fun x=>if x=s then d else f x):=by
 have hz:size (D.put (ky s) d)≤(ins L s).length:=by
  rw[size_put hT,h4 s hs]
  unfold ins
  by_cases hm:s∈L
  ·simpa[hm]using hn
  ·simpa[hm]using hn
 refine⟨ins_nodup h1,fun x hx=> ?_,D.put (ky s) d,?_,fun x hx=> ?_,fun x hx z=> ?_⟩
 ·rcases ins_mem.1 hx with rfl|hx
  ·exact hs
  ·exact h2 x hx
 ·obtain⟨es,c,a1,a2,a3,a4⟩:=h
  refine⟨es,c,a1,a2,?_,a4⟩
  have e:size (D.put (ky s) d)=es.size:=by rw[a4,size_eq,length_read]
  omega
 ·by_cases e:x=s
  ·subst e
   rw[has_put_same hm (ky_key _)]
   simp[ins_mem]
  ·rw[has_put_other (ky_ne e),h4 x hx]
   simp[ins_mem,e]
 ·by_cases e:x=s
  ·subst e
   rw[atKey_put_same hm (ky_key _)];exact(if_pos rfl).symm
  ·rw[atKey_put_other (ky_ne e)]
   rcases ins_mem.1 hx with hx|hx
   ·exact absurd hx e
   ·exact(h5 x hx z).trans (if_neg e).symm
end
section
variable {P:Program}{k:TypeId}(hk:P.underlying k=some .string)
variable {ops:Array Oper}{rest:List Oper}{o:Oper}{a:Act}{Q:Exit→Act→World→Prop}
theorem wp_store(w:World)(hg:o.guard=none)(m x v:Operand)(t:TypeId)(hop:o.op=Op.mapUpdate t m x v)(hk:P.underlying k=some .string)(e:TypeId)(ht:P.underlying t=some (.map k e))
  (R:Value→Option (DataW Unit×List MemPlace)) (b:Nat) (L:List ByteArray) (f:ByteArray→DataW Unit) (hm:a.eval m= .map (some b)) (h:tbl w P k R b L f) (hn:L.length<maxLen) (s:ByteArray) (hx:a.eval x= .string s) (hs:s.size≤maxLen)
  (val:Value) (hv:a.eval v=val) (d:DataW Unit) (ps:List MemPlace) (hd:R val=some (d,ps))
  (hK:∀ w',tbl w' P k R b (ins L s) (fun x=>if x=s then d else f x)→w.grownBy w' (some b)→wpList P ops Q rest (a.put o.dst undef) w'):wpList P ops Q (o::rest) a w:=by
 obtain⟨h1,h2,D,h3,h4,h5⟩:=h
 refine wpList_mapUpdate_own w hg m x v t hop k e (string_keyed hk) ht R b L.length D hm h3 hn _ val (ky s) hx hv (WideMaps.keyOf_string_mk hk hs) d ps hd fun w' hw hgr=>hK w' ?_ hgr
 exact tbl.store h1 h2 h3.isMap h4 h5 hs hw (string_keyed hk) (h3.tidy (string_keyed hk)) h3.size_le
theorem wp_look(w:World)(hg:o.guard=none)(m x:Operand)(t:TypeId)(hop:o.op=Op.lookup t m x false)(hk:P.underlying k=some .string)(e:TypeId)(ht:P.underlying t=some (.map k e))
  (R:Value→Option (DataW Unit×List MemPlace)) (z:Value) (hz:(zeroValue e).run P w= .ok z w) (zd:DataW Unit) (zp:List MemPlace) (hzd:R z=some (zd,zp))
  (b:Nat) (L:List ByteArray) (f:ByteArray→DataW Unit) (hm:a.eval m= .map (some b)) (h:tbl w P k R b L f) (s:ByteArray) (hx:a.eval x= .string s) (hs:s.size≤maxLen)
  (val:Value) (hval:∀ v ps,R v=some (if s∈L then f s else zd,ps)→v=val)
  (hK:wpList P ops Q rest (a.put o.dst val) w):wpList P ops Q (o::rest) a w:=by
 obtain⟨h1,h2,D,h3,h4,h5⟩:=h
 refine wpList_plain hg fun K' hK'=> ?_
 obtain⟨v,ps,hrun,hat⟩:=h3.lookup (string_keyed hk) ht hz hzd (WideMaps.keyOf_string_mk hk hs)
 have e1:v=val:=by
  refine hval v ps ?_
  rw[hat]
  by_cases hmem:s∈L
  ·rw[if_pos hmem]
   exact congrArg (fun d=>some (d,ps)) (h5 s hmem zd)
  ·rw[if_neg hmem]
   have h6:has D (ky s)=false:=by rw[h4 s hs];simp[hmem]
   exact congrArg (fun d=>some (d,ps)) (atKey_of_not_has h6 zd)
 subst e1
 unfold Oper.wp
 have hrun':(Instr.lookup t (Value.map (some b)) (Value.string s) false).run P w= .ok v w:=hrun
 simp[execOp,hop,hm,hx,hrun',Result.andThen]
 exact hK' _ _ hK
def rng(w:World)(P:Program)(k:TypeId)(R:Value→Option (DataW Unit×List MemPlace))(b r:Nat)(L:List ByteArray)(f:ByteArray→DataW Unit)(left:ByteArray→Prop)(cnt:Nat):Prop:=
 L.Nodup∧(∀ s∈L,s.size≤maxLen)∧∃ D lf,w.ranges P k R b r L.length D lf cnt∧(∀ s,s.size≤maxLen→has D (ky s)=decide (s∈L))∧(∀ s∈L,∀ z,D.atKey (ky s) z=f s)∧∀ s,s.size≤maxLen→(lf (ky s)=true↔left s)
theorem rng.tbl{w:World}{R:Value→Option (DataW Unit×List MemPlace)}{b r:Nat}{L:List ByteArray}{f:ByteArray→DataW Unit}{left:ByteArray→Prop}{cnt:Nat}(h:rng w P k R b r L f left cnt):tbl w P k R b L f:=by
 obtain⟨h1,h2,D,lf,h3,h4,h5,_⟩:=h;exact⟨h1,h2,D,h3.owns,h4,h5⟩
theorem rng.left_eq{w:World}{R:Value→Option (DataW Unit×List MemPlace)}{b r:Nat}{L:List ByteArray}{f:ByteArray→DataW Unit}{left:ByteArray→Prop}{cnt:Nat}(h:rng w P k R b r L f left cnt):w.rangeLeft b r=cnt:=by
 obtain⟨h1,h2,D,lf,h3,_⟩:=h;exact h3.left_eq
theorem rng.kept{w w':World}{R:Value→Option (DataW Unit×List MemPlace)}{b r:Nat}{L:List ByteArray}{f:ByteArray→DataW Unit}{left:ByteArray→Prop}{cnt:Nat}{row:Option Nat}(h:rng w P k R b r L f left cnt)(hg:w.grownBy w' row)(hb:some b≠row)(hr:some r≠row):rng w' P k R b r L f left cnt:=by
 obtain⟨h1,h2,D,lf,h3,h4,h5,h6⟩:=h;exact⟨h1,h2,D,lf,h3.kept hg hb hr,h4,h5,h6⟩
theorem rng.iter{w:World}{R:Value→Option (DataW Unit×List MemPlace)}{b r:Nat}{L:List ByteArray}{f:ByteArray→DataW Unit}{left:ByteArray→Prop}{cnt:Nat}(h:rng w P k R b r L f left cnt):∃ x y z u,w.heap[r]? =some (.mapIter x y z u):=by
 obtain⟨h1,h2,D,lf,⟨es,clock,since,seen,c0,_,_,_,_,h3,_⟩,_⟩:=h;exact⟨_,_,_,_,h3⟩
theorem wp_range(w:World)(hg:o.guard=none)(m:Operand)(t:TypeId)(hop:o.op=Op.range t m)(hk:P.underlying k=some .string)(e:TypeId)(ht:P.underlying t=some (.map k e))
  (R:Value→Option (DataW Unit×List MemPlace)) (b:Nat) (L:List ByteArray) (f:ByteArray→DataW Unit) (hm:a.eval m= .map (some b)) (h:tbl w P k R b L f)
  (hK:∀ w' cnt,rng w' P k R b w.heap.size L f (·∈L) cnt→w.grownBy w' none→w'.heap.size=w.heap.size+1→wpList P ops Q rest (a.put o.dst (.pointer (some ⟨w.heap.size,0,none⟩))) w'):wpList P ops Q (o::rest) a w:=by
 obtain⟨h1,h2,D,h3,h4,h5⟩:=h
 exact wpList_range_own w hg m t hop k e (string_keyed hk) ht R b L.length D hm h3 fun w' hr hgr hsz=>hK w' _ ⟨h1,h2,D,_,hr,h4,h5,fun s hs=>by rw[h4 s hs];simp⟩ hgr hsz
theorem wp_next(w:World)(hg:o.guard=none)(it:Operand)(hop:o.op=Op.next it false)(hk:P.underlying k=some .string)(R:Value→Option (DataW Unit×List MemPlace))(mkV:ByteArray→Value)
  (b r:Nat) (L:List ByteArray) (f:ByteArray→DataW Unit) (invV:∀ s∈L,∀ v ps,R v=some (f s,ps)→v=mkV s) (left:ByteArray→Prop) (cnt:Nat)
  (hit:a.eval it= .pointer (some ⟨r,0,none⟩)) (h:rng w P k R b r L f left cnt)
  (hDone:(∀ s,s.size≤maxLen→¬left s)→wpList P ops Q rest (a.put o.dst (.tuple #[.bool false])) w)
  (hMore:∀ (s:ByteArray) (w':World) (cnt':Nat),s∈L→left s→rng w' P k R b r L f (fun x=>left x∧x≠s) cnt'→cnt'<cnt→w.grownBy w' (some r)→w'.heap.size=w.heap.size→
   (Instr.entry (.pointer (some ⟨r,0,none⟩))).run P w'= .ok (.tuple #[.string s,mkV s]) w'→wpList P ops Q rest (a.put o.dst (.tuple #[.bool true,.string s,mkV s])) w'):
  wpList P ops Q (o::rest) a w:=by
 obtain⟨h1,h2,D,lf,h3,h4,h5,h6⟩:=h
 refine wpList_plain hg fun K' hK'=> ?_
 unfold Oper.wp
 rcases h3.next (string_keyed hk) o.type with⟨h0,hl,hrun⟩|⟨key,v,kl,y,w',cnt',hkey,hlk,hv,hat,hrun,hrg,hlt,hgr,hsz,hen⟩
 ·simp[execOp,hop,hit,hrun,Result.andThen]
  exact hK' _ _ (hDone fun s hs hl'=>by have:=(h6 s hs).2 hl';rw[hl]at this;cases this)
 ·obtain⟨x,rfl,rfl,hx⟩:=Maps.keyOf_str hk hkey
  obtain⟨s,hs⟩:∃ s:ByteArray,s.data.toList=x:=⟨⟨x.toArray⟩,by simp⟩
  subst hs
  have hss:s.size≤maxLen:=by rw[Array.length_toList]at hx;exact hx
  have hmem:s∈L:=by
   have e1:has D (ky s)=true:=has_true_of_atKey hat
   rw[h4 s hss]at e1
   simpa using e1
  have hval:v=mkV s:=by
   refine invV s hmem v y.2 ?_
   rw[hv,← h5 s hmem (f s)]
   exact congrArg some (Prod.ext (hat (f s)).symm rfl)
  have henc:encStr s.data.toList= .string s:=by simp[encStr]
  rw[henc]at hrun hen
  subst hval
  simp[execOp,hop,hit,hrun,Result.andThen]
  refine hK' _ _ (hMore s w' cnt' hmem ((h6 s hss).1 hlk) ⟨h1,h2,D,_,hrg,h4,h5,fun x hx'=> ?_⟩ hlt hgr hsz hen)
  rw[Bool.and_eq_true,h6 x hx']
  refine and_congr_right fun _=> ?_
  by_cases e:x=s
  ·subst e
   have e2:=WideAt.sameKey_self (ky_key x)
   have e3:(ky x).sameKey (Lit.string x.data.toList)=true:=e2
   simp[e3]
  ·have e2:=sameKey_ne (ky_ne e)
   have e3:(ky x).sameKey (Lit.string s.data.toList)=false:=e2
   simp[e3,e]
end
abbrev tt:DataW Unit:= .lit (.bool true)
def set(w:World)(P:Program)(k e:TypeId)(b:Nat)(L:List ByteArray):Prop:=tbl w P k (plainElem P e) b L fun _=>tt
theorem bool_inv{P:Program}{e:TypeId}(he:P.underlying e=some .bool){v:Value}{c:Bool}{ps:List MemPlace}(h:plainElem (H:=Unit) P e v=some (.lit (.bool c),ps)):v= .bool c:=by
 unfold plainElem at h
 rw[he]at h
 cases v<;>simp at h
 rw[h.1]
section
variable {P:Program}{k e:TypeId}{ops:Array Oper}{rest:List Oper}{o:Oper}{a:Act}{Q:Exit→Act→World→Prop}
theorem set_made(w:World)(P:Program)(k e:TypeId):set (w.alloc (.map #[] 0)) P k e w.heap.size []:=tbl_made w P k _ _
theorem wp_add(w:World)(hg:o.guard=none)(m x v:Operand)(t:TypeId)(hop:o.op=Op.mapUpdate t m x v)(hk:P.underlying k=some .string)(he:P.underlying e=some .bool)(ht:P.underlying t=some (.map k e))
  (b:Nat) (L:List ByteArray) (hm:a.eval m= .map (some b)) (h:set w P k e b L) (hn:L.length<maxLen) (s:ByteArray) (hx:a.eval x= .string s) (hs:s.size≤maxLen) (hv:a.eval v= .bool true)
  (hK:∀ w',set w' P k e b (ins L s)→w.grownBy w' (some b)→wpList P ops Q rest (a.put o.dst undef) w'):wpList P ops Q (o::rest) a w:=
 wp_store w hg m x v t hop hk e ht _ b L _ hm h hn s hx hs _ hv tt [] (plainElem_bool he true) fun w' hw hgr=>hK w' (hw.congr fun x _=>by split<;>rfl) hgr
theorem wp_in(w:World)(hg:o.guard=none)(m x:Operand)(t:TypeId)(hop:o.op=Op.lookup t m x false)(hk:P.underlying k=some .string)(he:P.underlying e=some .bool)(ht:P.underlying t=some (.map k e))
  (hz:(zeroValue e).run P w= .ok (.bool false) w) (b:Nat) (L:List ByteArray) (hm:a.eval m= .map (some b)) (h:set w P k e b L) (s:ByteArray) (hx:a.eval x= .string s) (hs:s.size≤maxLen)
  (hK:wpList P ops Q rest (a.put o.dst (.bool (decide (s∈L)))) w):wpList P ops Q (o::rest) a w:=
 wp_look w hg m x t hop hk e ht _ (.bool false) hz (.lit (.bool false)) [] (plainElem_bool he false) b L _ hm h s hx hs (.bool (decide (s∈L))) (fun v ps hv=>by
  by_cases hmem:s∈L
  ·rw[if_pos hmem]at hv;rw[bool_inv he hv];simp[hmem]
  ·rw[if_neg hmem]at hv;rw[bool_inv he hv];simp[hmem]) hK
end
def mapElem:Value→Option (DataW Unit×List MemPlace)
 | .map (some b)=>some (.lit (.int .i64 b),[])
 | .map none=>some (.nil,[])
 |_=>none
theorem mapElem_some{v:Value}{n:Nat}{ps:List MemPlace}(h:mapElem v=some (.lit (.int .i64 n),ps)):v= .map (some n):=by
 unfold mapElem at h
 split at h
 ·simp at h;have:=h.1;rw[Int.ofNat_inj.1 this]
 ·simp at h
 ·cases h
theorem mapElem_none{v:Value}{ps:List MemPlace}(h:mapElem v=some (.nil,ps)):v= .map none:=by
 unfold mapElem at h
 split at h
 ·simp at h
 ·rfl
 ·cases h
def maps(w:World)(P:Program)(k:TypeId)(b:Nat)(L:List ByteArray)(at_:ByteArray→Nat):Prop:=tbl w P k mapElem b L fun s=> .lit (.int .i64 (at_ s))
section
variable {P:Program}{k e:TypeId}{ops:Array Oper}{rest:List Oper}{o:Oper}{a:Act}{Q:Exit→Act→World→Prop}
theorem wp_getm(w:World)(hg:o.guard=none)(m x:Operand)(t:TypeId)(hop:o.op=Op.lookup t m x false)(hk:P.underlying k=some .string)(ht:P.underlying t=some (.map k e))
  (hz:(zeroValue e).run P w= .ok (.map none) w) (b:Nat) (L:List ByteArray) (at_:ByteArray→Nat) (hm:a.eval m= .map (some b)) (h:maps w P k b L at_) (s:ByteArray) (hx:a.eval x= .string s) (hs:s.size≤maxLen)
  (hK:wpList P ops Q rest (a.put o.dst (.map (if s∈L then some (at_ s)else none))) w):wpList P ops Q (o::rest) a w:=
 wp_look w hg m x t hop hk e ht _ (.map none) hz .nil [] rfl b L _ hm h s hx hs _ (fun v ps hv=>by
  by_cases hmem:s∈L
  ·rw[if_pos hmem]at hv ⊢;exact mapElem_some hv
  ·rw[if_neg hmem]at hv ⊢;exact mapElem_none hv) hK
theorem wp_putm(w:World)(hg:o.guard=none)(m x v:Operand)(t:TypeId)(hop:o.op=Op.mapUpdate t m x v)(hk:P.underlying k=some .string)(ht:P.underlying t=some (.map k e))
  (b:Nat) (L:List ByteArray) (at_:ByteArray→Nat) (hm:a.eval m= .map (some b)) (h:maps w P k b L at_) (hn:L.length<maxLen) (s:ByteArray) (hx:a.eval x= .string s) (hs:s.size≤maxLen) (n:Nat) (hv:a.eval v= .map (some n))
  (hK:∀ w',maps w' P k b (ins L s) (fun x=>if x=s then n else at_ x)→w.grownBy w' (some b)→wpList P ops Q rest (a.put o.dst undef) w'):wpList P ops Q (o::rest) a w:=
 wp_store w hg m x v t hop hk e ht _ b L _ hm h hn s hx hs _ hv (.lit (.int .i64 n)) [] rfl fun w' hw hgr=>hK w' (hw.congr fun x _=>by by_cases e:x=s<;>simp[e]) hgr
end
end Go.Tb
namespace Go.Tb
open Go.RowKit
def names(w:World)(e:TypeId)(lo:Nat)(v:Value)(L:List ByteArray):Prop:=
 ∃ a cap,v= .slice a L.length cap∧L.length≤cap∧cap≤maxLen∧
  (0<cap→∃ g off cur,a=some ⟨g,off,none⟩∧lo≤g∧w.heap[g]? =some (.cells cur e (0,0))∧off+cap≤cur.size∧∀ j (hj:j<L.length),cur[off+j]? =some (.string L[j]))
structure Cellw(lo:Nat)(w w':World):Prop where
 os:w'.os=w.os
 tape:w'.tape=w.tape
 output:w'.output=w.output
 size:w.heap.size≤w'.heap.size
 below:∀ k,k<lo→k<w.heap.size→w'.heap[k]? =w.heap[k]?
 other:∀ k,k<w.heap.size→(∀ cs t f,w.heap[k]?≠some (.cells cs t f))→w'.heap[k]? =w.heap[k]?
theorem tbl.cellw{w w':World}{lo:Nat}{P:Program}{k:TypeId}{R:Value→Option (DataW Unit×List MemPlace)}{b:Nat}{L:List ByteArray}{f:ByteArray→DataW Unit}(h:tbl w P k R b L f)(hc:Cellw lo w w'):tbl w' P k R b L f:=
 h.block (hc.other b h.lt fun cs t fr e=>by obtain⟨es,c,h⟩:=h.isMap;rw[h]at e;cases e)
theorem rng.cellw{w w':World}{lo:Nat}{P:Program}{k:TypeId}{R:Value→Option (DataW Unit×List MemPlace)}{b r:Nat}{L:List ByteArray}{f:ByteArray→DataW Unit}{left:ByteArray→Prop}{cnt:Nat}(h:rng w P k R b r L f left cnt)(hc:Cellw lo w w'):rng w' P k R b r L f left cnt:=by
 have hb:=h.tbl
 obtain⟨x,y,z,u,hr⟩:=h.iter
 have e1:w'.heap[b]? =w.heap[b]? :=hc.other b hb.lt fun cs t fr e=>by obtain⟨es,c,h⟩:=hb.isMap;rw[h]at e;cases e
 have e2:w'.heap[r]? =w.heap[r]? :=hc.other r (Array.getElem?_eq_some_iff.1 hr).1 fun cs t fr e=>by rw[hr]at e;cases e
 obtain⟨h1,h2,D,lf,⟨es,clock,since,seen,c0,g1,g2,g3,g4,g5,g6⟩,h4,h5,h6⟩:=h
 exact⟨h1,h2,D,lf,⟨es,clock,since,seen,c0,e1.trans g1,g2,g3,g4,e2.trans g5,g6⟩,h4,h5,h6⟩
theorem names.of_row{w:World}{e:TypeId}{base:Nat}{v:Value}{L:List ByteArray}(h:w.ownsRow base e 1 v L.length (L.map .string)):names w e base v L:=by
 obtain⟨h1,h2⟩:=h
 rcases h2 with⟨rfl,hn⟩|⟨g,cap,cur,rfl,hb,hg,hc,hm,hs,ht⟩
 ·exact⟨none,0,by rw[hn],by omega,by simp,fun h=>absurd h (by omega)⟩
 ·refine⟨_,cap,rfl,hc,hm,fun _=>⟨g,0,cur,rfl,hb,hg,by omega,fun j hj=> ?_⟩⟩
  have e1:=congrArg (fun l=>l[j]?) ht
  simp only[Nat.mul_one,List.getElem?_take,if_pos hj,List.getElem?_map,List.getElem?_eq_getElem hj,Option.map_some]at e1
  rw[Nat.zero_add];simpa using e1
theorem names.mono{w:World}{e:TypeId}{lo lo':Nat}{v:Value}{L:List ByteArray}(h:names w e lo v L)(hl:lo'≤lo):names w e lo' v L:=by
 obtain⟨a,cap,rfl,h1,h2,h3⟩:=h
 exact⟨a,cap,rfl,h1,h2,fun hc=>by obtain⟨g,off,cur,g1,g2,g3⟩:=h3 hc;exact⟨g,off,cur,g1,Nat.le_trans hl g2,g3⟩⟩
theorem names.len{w:World}{e:TypeId}{lo:Nat}{v:Value}{L:List ByteArray}(h:names w e lo v L):L.length≤maxLen:=by
 obtain⟨a,cap,rfl,h1,h2,h3⟩:=h;omega
theorem names.keep{w w':World}{e:TypeId}{lo:Nat}{v:Value}{L:List ByteArray}(h:names w e lo v L)(hk:∀ (g:Nat) (cur:Array Value) (t:TypeId) (f:Nat×Nat),w.heap[g]? =some (Obj.cells cur t f)→w'.heap[g]? =w.heap[g]?):names w' e lo v L:=by
 obtain⟨a,cap,rfl,h1,h2,h3⟩:=h
 exact⟨a,cap,rfl,h1,h2,fun hc=>by obtain⟨g,off,cur,g1,g2,g3,g4⟩:=h3 hc;exact⟨g,off,cur,g1,g2,(hk g _ _ _ g3).trans g3,g4⟩⟩
theorem names.alloc{w:World}{e:TypeId}{lo:Nat}{v:Value}{L:List ByteArray}(h:names w e lo v L)(o:Obj):names (w.alloc o) e lo v L:=
 h.keep fun g cur t f hg=>heap_alloc_old w o (Array.getElem?_eq_some_iff.1 hg).1
theorem names.grown{w w':World}{e:TypeId}{lo b:Nat}{v:Value}{L:List ByteArray}(h:names w e lo v L)(hg:w.grownBy w' (some b))(hb:∀ cs t f,w.heap[b]?≠some (.cells cs t f)):names w' e lo v L:=
 h.keep fun g cur t f hgg=>hg.block g (Array.getElem?_eq_some_iff.1 hgg).1 fun e1=>by cases e1;exact hb _ _ _ hgg
theorem names.new{w w':World}{e:TypeId}{lo:Nat}{v:Value}{L:List ByteArray}(h:names w e lo v L)(hg:w.grownBy w' none):names w' e lo v L:=
 h.keep fun g cur t f hgg=>hg.block g (Array.getElem?_eq_some_iff.1 hgg).1 (by simp)
theorem cell_at{w:World}{g off:Nat}{cur:Array Value}{t:TypeId}{f:Nat×Nat}(h:w.heap[g]? =some (Obj.cells cur t f)):w.cell? ⟨g,off,none⟩=cur[off]? :=by
 simp[World.cell?,h]
theorem names.head{w:World}{e:TypeId}{lo:Nat}{v:Value}{s:ByteArray}{L:List ByteArray}(h:names w e lo v (s::L)):∃ g off cap,v= .slice (some ⟨g,off,none⟩) (L.length+1) cap∧w.cell? ⟨g,off,none⟩=some (.string s):=by
 obtain⟨a,cap,rfl,h1,h2,h3⟩:=h
 simp only[List.length_cons]at h1
 obtain⟨g,off,cur,rfl,g2,g3,g4,g5⟩:=h3 (by omega)
 refine⟨g,off,cap,by simp,?_⟩
 have:=g5 0 (by simp)
 rw[cell_at g3];simpa using this
theorem names.cell{w:World}{e:TypeId}{lo:Nat}{v:Value}{L:List ByteArray}(h:names w e lo v L){i:Nat}(hi:i<L.length):∃ g off cap,v= .slice (some ⟨g,off,none⟩) L.length cap∧w.cell? ⟨g,off+i,none⟩=some (.string L[i]):=by
 obtain⟨a,cap,rfl,h1,h2,h3⟩:=h
 obtain⟨g,off,cur,rfl,g2,g3,g4,g5⟩:=h3 (by omega)
 exact⟨g,off,cap,rfl,by rw[cell_at g3];exact g5 i hi⟩
theorem names.shape{w:World}{e:TypeId}{lo:Nat}{v:Value}{L:List ByteArray}(h:names w e lo v L):∃ a cap,v= .slice a L.length cap:=by
 obtain⟨a,cap,rfl,_⟩:=h;exact⟨a,cap,rfl⟩
section
variable {P:Program}{ops:Array Oper}{rest:List Oper}{o:Oper}{a:Act}{Q:Exit→Act→World→Prop}
theorem wp_tail(w:World)(hg:o.guard=none)(t:TypeId)(x:Operand)(hop:o.op=Op.slice t x (some (.const (.int .i64 1))) none none)(e:TypeId)(ht:P.underlying t=some (.slice e))(hsz:∀ w,(sizeOf e).run P w= .ok 1 w)(lo:Nat)(v:Value)(s:ByteArray)(L:List ByteArray)
  (hx:a.eval x=v) (h:names w e lo v (s::L)) (hK:∀ v',names w e lo v' L→wpList P ops Q rest (a.put o.dst v') w):wpList P ops Q (o::rest) a w:=by
 refine wpList_plain hg fun K' hK'=> ?_
 obtain⟨a0,cap,rfl,h1,h2,h3⟩:=h
 simp only[List.length_cons]at h1
 obtain⟨g,off,cur,rfl,g2,g3,g4,g5⟩:=h3 (by omega)
 have hr:(Instr.sliceAt t (.slice (some ⟨g,off,none⟩) (L.length+1) cap) (some (.int .i64 1)) none none).run P w= .ok (.slice (if cap=1 then some ⟨g,off,none⟩else some ⟨g,off+1,none⟩) L.length (cap-1)) w:=by
  have hl:(1:Int)≤((L.length+1:Nat):Int):=by omega
  simp[Instr.sliceAt,run_underlying ht,Instr.slice,Instr.sliceBounds,Instr.sliceBound,asIntOf,hsz,Addr.add]
  omega
 have hx':a.eval x= .slice (some ⟨g,off,none⟩) (L.length+1) cap:=hx
 have hc1:a.eval (.const (.int .i64 1))= .int .i64 1:=rfl
 have hn:names w e lo (.slice (if cap=1 then some ⟨g,off,none⟩else some ⟨g,off+1,none⟩) L.length (cap-1)) L:=by
  refine⟨_,cap-1,rfl,by omega,by omega,fun hc=>⟨g,off+1,cur,by rw[if_neg (by omega)],g2,g3,by omega,fun j hj=> ?_⟩⟩
  have:=g5 (j+1) (by simp;omega)
  rw[Nat.add_assoc,Nat.add_comm 1 j];simpa using this
 have hk:=hK _ hn
 clear hK hn h3 g5
 generalize hv:Value.slice (if cap=1 then some ⟨g,off,none⟩else some ⟨g,off+1,none⟩) L.length (cap-1)=v' at hr hk
 unfold Oper.wp
 simp[execOp,hop,hx',hc1,hr,Result.andThen]
 exact hK' _ _ hk
theorem run_append_room_at(w:World)(t ty e:TypeId)(i:TypeInfo)(ht:P.underlying t=some (.slice e))(hi:P.info? e=some i)
  (g off sLen sCap:Nat) (cur:Array Value) (hg:w.heap[g]? =some (.cells cur e (0,0)))
  (a:Addr) (m c:Nat) (news:List Value) (hl:news.length=m * i.size) (hnews:∀ j u,news[j]? =some u→w.cell? (a.add j)=some u) (h1:∀ u∈news,u.oneCell'=true)
  (hroom:sLen+m≤sCap) (hfit:off+sLen * i.size+news.length≤cur.size):
  (Builtin.append_ #[t,t] ty #[.slice (some ⟨g,off,none⟩) sLen sCap,.slice (some a) m c]).run P w=
   .ok (.slice (some ⟨g,off,none⟩) (sLen+m) sCap) (w.setRow g (cur.toList.take (off+sLen * i.size)++news++cur.toList.drop (off+sLen * i.size+news.length)).toArray):=by
 have hf:=run_firstCells_some (P:=P) w i.size m a m c news hl hnews
 have hst:=run_storeCells_at P g (off+sLen * i.size) e news 0 cur w hg (by simpa using hfit) h1
 simp only[Nat.add_zero]at hst
 simp[Builtin.append_,run_underlying ht,sizeOf,typeInfo,hi,Builtin.lenOf,hroom,hf,Addr.add_lit,hst]
theorem wp_append1(w:World)(hgd:o.guard=none)(v x:Operand)(t:TypeId)(ho:o.op= .call {callee:= .builtin .append,args:= #[v,x],argTypes:= #[t,t]})
  (e:TypeId) (i:TypeInfo) (z:Value) (ht:P.underlying t=some (.slice e)) (hi:P.info? e=some i) (hz:i.zero=some z) (hsize:i.size=1) (hby:i.bytes=16) (hzs:z.cells.size=1)
  (lo:Nat) (hlo:lo≤w.heap.size) (u:Value) (L:List ByteArray) (hv:a.eval v=u) (h:names w e lo u L) (b:Nat) (s:ByteArray) (hx:a.eval x= .slice (some ⟨b,0,none⟩) 1 1) (hb:w.cell? ⟨b,0,none⟩=some (.string s))
  (hn:L.length+1≤4398046511104)
  (hK:∀ u' w',names w' e lo u' (L++[s])→Cellw lo w w'→wpList P ops Q rest (a.put o.dst u') w'):wpList P ops Q (o::rest) a w:=by
 refine wpList_plain hgd fun K' hK'=> ?_
 have hnews:∀ j u,[Value.string s][j]? =some u→w.cell? ((⟨b,0,none⟩:Addr).add j)=some u:=fun j u hj=>by
  match j,hj with
  |0,hj=>simp at hj;subst hj;simpa[Addr.add]using hb
 have key:∃ u' w',(Builtin.append_ #[t,t] o.type #[u,.slice (some ⟨b,0,none⟩) 1 1]).run P w= .ok u' w'∧names w' e lo u' (L++[s])∧Cellw lo w w':=by
  obtain⟨a0,cap,rfl,h1,h2,h3⟩:=h
  have grown:∀ old,names (w.drew.alloc (.cells ((L.map Value.string).toArray++[Value.string s].toArray++Builtin.zeroCells z.cells (grownCap w (L.length+1) old e-(L.length+1))) e)) e lo (.slice (some ⟨w.heap.size,0,none⟩) (L.length+1) (grownCap w (L.length+1) old e)) (L++[s]):=fun old=>by
   have hge:=grownCap_ge w (L.length+1) old e
   have hcm:=grownCap_le_maxLen w (L.length+1) old e (by unfold maxLen;omega)
   refine⟨_,_,by simp,by simpa using hge,hcm,fun _=>⟨w.heap.size,0,_,rfl,hlo,heap_alloc_new w.drew _,?_,fun j hj=> ?_⟩⟩
   ·simp only[Array.size_append,List.size_toArray,size_zeroCells,hzs,List.length_map,List.length_singleton];omega
   ·have e1:(L.map Value.string).toArray++[Value.string s].toArray=((L++[s]).map Value.string).toArray:=by simp
    rw[e1,Nat.zero_add,Array.getElem?_append_left (by simpa using hj),List.getElem?_toArray,List.getElem?_map,List.getElem?_eq_getElem hj];rfl
  have cw:∀ old,Cellw lo w (w.drew.alloc (.cells ((L.map Value.string).toArray++[Value.string s].toArray++Builtin.zeroCells z.cells (grownCap w (L.length+1) old e-(L.length+1))) e)):=fun old=>
   ⟨rfl,rfl,rfl,by simp,fun k _ hk=>heap_alloc_old w.drew _ hk,fun k hk _=>heap_alloc_old w.drew _ hk⟩
  by_cases hc:cap=0
  ·subst hc
   have hL:L=[]:=List.eq_nil_of_length_eq_zero (by omega)
   subst hL
   cases a0 with
   |none=>
    have hr:=run_append_nil (P:=P) w t o.type e i z ht hi hz ⟨b,0,none⟩ 1 1 [.string s] (by simp[hsize]) hnews (by omega) (by omega) (by rw[hby];omega)
    have:=grown 0
    have:=cw 0
    simp only[List.length_nil,List.map_nil,Nat.zero_add,List.nil_append,Array.empty_append]at *
    exact⟨_,_,hr,by assumption,by assumption⟩
   |some a1=>
    have hr:=run_append_grow (P:=P) w t o.type e i z ht hi hz a1 0 0 [] (by simp) (by simp) ⟨b,0,none⟩ 1 1 [.string s] (by simp[hsize]) hnews (by omega) (by omega) (growslice_fits (by omega) (by rw[hby];omega))
    have:=grown 0
    have:=cw 0
    simp only[List.length_nil,List.map_nil,Nat.zero_add,List.nil_append]at *
    exact⟨_,_,hr,by assumption,by assumption⟩
  ·obtain⟨g,off,cur,rfl,g2,g3,g4,g5⟩:=h3 (by omega)
   by_cases hroom:L.length+1≤cap
   ·have hr:=run_append_room_at (P:=P) w t o.type e i ht hi g off L.length cap cur g3 ⟨b,0,none⟩ 1 1 [.string s] (by simp[hsize]) hnews (by intro y hy;rw[List.mem_singleton]at hy;subst hy;rfl) hroom (by rw[hsize];simp;omega)
    refine⟨_,_,hr,⟨_,cap,by simp,by simpa using hroom,h2,fun _=>⟨g,off,_,rfl,g2,setRow_heap w g cur _ e _ g3,?_,fun j hj=> ?_⟩⟩,?_⟩
    ·simp only[List.size_toArray,List.length_append,List.length_take,List.length_drop,Array.length_toList,hsize];simp;omega
    ·simp only[hsize,Nat.mul_one,List.getElem?_toArray]
     by_cases hj2:j<L.length
     ·rw[List.append_assoc,List.getElem?_append_left (by simp;omega),List.getElem?_take,if_pos (by omega)]
      rw[List.getElem_append_left hj2]
      simpa using g5 j hj2
     ·have:j=L.length:=by simp at hj;omega
      subst this
      rw[List.append_assoc,List.getElem?_append_right (by simp;omega)]
      simp
      rw[Nat.min_eq_left (by omega)];simp
    ·refine⟨rfl,rfl,rfl,by simp[World.setRow],fun k hk _=>setRow_other w g k _ (by omega),fun k hk hn=>setRow_other w g k _ (fun e1=> ?_)⟩
     subst e1;exact hn _ _ _ g3
   ·have holds:∀ j u,(L.map Value.string)[j]? =some u→w.cell? ((⟨g,off,none⟩:Addr).add j)=some u:=fun j u hj=>by
     rw[List.getElem?_map,Option.map_eq_some_iff]at hj
     obtain⟨y,hy,rfl⟩:=hj
     obtain⟨hj,rfl⟩:=List.getElem?_eq_some_iff.1 hy
     rw[Addr.add_lit,cell_at g3];exact g5 j hj
    have hr:=run_append_grow (P:=P) w t o.type e i z ht hi hz ⟨g,off,none⟩ L.length cap (L.map .string) (by simp[hsize]) holds ⟨b,0,none⟩ 1 1 [.string s] (by simp[hsize]) hnews (by omega) (by omega) (growslice_fits (by omega) (by rw[hby];omega))
    exact⟨_,_,hr,grown cap,cw cap⟩
 obtain⟨u',w',hr,h2,h3⟩:=key
 unfold Oper.wp execOp
 simp only[ho,resolve,invoke,builtin,Sem.run_bind,Sem.run_pure,Result.andThen_ok,List.map_toArray,List.map_cons,List.map_nil,hv,hx,hr]
 exact hK' _ _ (hK u' w' h2 h3)
end
end Go.Tb
