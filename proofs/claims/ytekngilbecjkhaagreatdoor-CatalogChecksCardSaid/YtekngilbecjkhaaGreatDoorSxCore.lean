/-
  The layer Sx, first part: abstract values, what they stand for in a world, the invariant of a walk. Over any program.
-/
import Derived.Orders
import Derived.WalkKit
set_option linter.unusedVariables false
set_option linter.unusedSimpArgs false
set_option linter.unusedSectionVars false
namespace Go.Sx
inductive AV where
 |v (x:Value)
 |any
 |agg (xs:List AV)
 |tup (xs:List AV)
 |sl (nn:Bool) (esz:Nat) (rows:List (List AV))
 |own (esz t b u c:Nat) (rows:List (List AV))
 |ms (t b o n c:Nat)
 |pc (l:List AV)
 |ifc (t:TypeId) (x:AV)
 |lp (t b o:Nat)
 |mpt (t b:Nat)
 |ai (k:IntKind)
 |cl (f:FuncId) (a c:List AV)
 |fl (esz:Nat) (rows:List (List AV))
deriving Inhabited
abbrev Mem:=Nat→Nat→Option Value
def Mem.le(M M':Mem):Prop:=∀ b o v,M b o=some v→M' b o=some v
theorem Mem.le.refl(M:Mem):M.le M:=fun _ _ _ h=>h
theorem Mem.le.trans{A B C:Mem}(h:A.le B)(k:B.le C):A.le C:=fun b o v x=>k b o v (h b o v x)
inductive R(M:Mem):AV→Value→Prop
 |v (x:Value):R M (.v x) x
 |any (x:Value):R M .any x
 |agg (xs:List AV) (cs:List Value) (hl:xs.length=cs.length) (h:∀ i (h1:i<xs.length) (h2:i<cs.length),R M xs[i] cs[i]):R M (.agg xs) (.agg cs.toArray)
 |tup (xs:List AV) (cs:List Value) (hl:xs.length=cs.length) (h:∀ i (h1:i<xs.length) (h2:i<cs.length),R M xs[i] cs[i]):R M (.tup xs) (.tuple cs.toArray)
 |nil (nn:Bool) (esz:Nat) (a:Option Addr) (h:nn=true→a.isSome=true):R M (.sl nn esz []) (.slice a 0 0)
 |sl (nn:Bool) (esz:Nat) (rows:List (List AV)) (b off cap:Nat) (cs:Nat→Value) (hsz:∀ i (h:i<rows.length),rows[i].length=esz)
   (hM:∀ k,k<rows.length * esz→M b (off+k)=some (cs k))
   (hR:∀ i (h:i<rows.length) j (h2:j<rows[i].length),R M rows[i][j] (cs (i * esz+j)))
   (hc:rows.length≤cap) (hm:cap≤maxLen):R M (.sl nn esz rows) (.slice (some ⟨b,off,none⟩) rows.length cap)
 |ms (t b o n c:Nat):R M (.ms t b o n c) (.slice (some ⟨b,o,none⟩) n c)
 |own (esz t b u c:Nat) (rows:List (List AV)) (off cap:Nat) (cs:Nat→Value) (hsz:∀ i (h:i<rows.length),rows[i].length=esz)
   (hM:∀ k,k<rows.length * esz→M b (off+k)=some (cs k))
   (hR:∀ i (h:i<rows.length) j (h2:j<rows[i].length),R M rows[i][j] (cs (i * esz+j)))
   (hc:rows.length≤cap) (hm:cap≤maxLen) (hu:cap=0∨(off+rows.length * esz=u∧off+cap * esz≤c)) (he:0<esz):R M (.own esz t b u c rows) (.slice (some ⟨b,off,none⟩) rows.length cap)
 |pc (l:List AV) (b off:Nat) (cs:Nat→Value) (hM:∀ k,k<l.length→M b (off+k)=some (cs k))
   (hR:∀ k (h:k<l.length),R M l[k] (cs k)):R M (.pc l) (.pointer (some ⟨b,off,none⟩))
 |ifc (t:TypeId) (x:AV) (v:Value) (h:R M x v):R M (.ifc t x) (.iface t v)
 |lp (t b o:Nat):R M (.lp t b o) (.pointer (some ⟨b,o,none⟩))
 |mpt (t b:Nat):R M (.mpt t b) (.map (some b))
 |ai (k:IntKind) (n:Int):R M (.ai k) (.int k n)
 |cl (f:FuncId) (a c:List AV) (va vc:List Value) (hl:a.length=va.length) (hl':c.length=vc.length) (h:∀ i (h1:i<a.length) (h2:i<va.length),R M a[i] va[i])
   (h':∀ i (h1:i<c.length) (h2:i<vc.length),R M c[i] vc[i]):R M (.cl f a c) (.func (.func f) va.toArray vc.toArray)
 |fl (esz:Nat) (rows:List (List AV)) (b off:Nat) (cs:Nat→Value) (hsz:∀ i (h:i<rows.length),rows[i].length=esz)
   (hM:∀ k,k<rows.length * esz→M b (off+k)=some (cs k))
   (hR:∀ i (h:i<rows.length) j (h2:j<rows[i].length),R M rows[i][j] (cs (i * esz+j)))
   (hm:rows.length≤maxLen):R M (.fl esz rows) (.slice (some ⟨b,off,none⟩) rows.length rows.length)
theorem R.mono{M M':Mem}(hM:M.le M'){x:AV}{v:Value}(h:R M x v):R M' x v:=by
 induction h with
 |v x=>exact .v x
 |any x=>exact .any x
 |agg xs cs hl _ ih=>exact .agg xs cs hl ih
 |tup xs cs hl _ ih=>exact .tup xs cs hl ih
 |nil nn esz a h=>exact .nil nn esz a h
 |sl nn esz rows b off cap cs hsz hm _ hc hx ih=>exact .sl nn esz rows b off cap cs hsz (fun k hk=>hM _ _ _ (hm k hk)) ih hc hx
 |ms t b o n c=>exact .ms t b o n c
 |own esz t b u c rows off cap cs hsz hm _ hc hx hu he ih=>exact .own esz t b u c rows off cap cs hsz (fun k hk=>hM _ _ _ (hm k hk)) ih hc hx hu he
 |pc l b off cs hm _ ih=>exact .pc l b off cs (fun k hk=>hM _ _ _ (hm k hk)) ih
 |ifc t x v _ ih=>exact .ifc t x v ih
 |lp t b o=>exact .lp t b o
 |mpt t b=>exact .mpt t b
 |ai k n=>exact .ai k n
 |cl f a c va vc hl hl' _ _ ih ih'=>exact .cl f a c va vc hl hl' ih ih'
 |fl esz rows b off cs hsz hm _ hx ih=>exact .fl esz rows b off cs hsz (fun k hk=>hM _ _ _ (hm k hk)) ih hx
def RL(M:Mem)(xs:List AV)(cs:List Value):Prop:=xs.length=cs.length∧∀ i (h1:i<xs.length) (h2:i<cs.length),R M xs[i] cs[i]
theorem RL.mono{M M':Mem}(hM:M.le M'){xs:List AV}{cs:List Value}(h:RL M xs cs):RL M' xs cs:=⟨h.1,fun i a b=>(h.2 i a b).mono hM⟩
theorem RL.nil{M:Mem}:RL M [] []:=⟨rfl,fun i h=>absurd h (by simp)⟩
theorem RL.cons{M:Mem}{x:AV}{v:Value}{xs:List AV}{cs:List Value}(h:R M x v)(t:RL M xs cs):RL M (x::xs) (v::cs):=by
 refine⟨by simp[t.1],fun i h1 h2=> ?_⟩
 cases i with
 |zero=>exact h
 |succ i=>simpa using t.2 i (by simpa using h1) (by simpa using h2)
theorem RL.uncons{M:Mem}{x:AV}{xs:List AV}{cs:List Value}(h:RL M (x::xs) cs):∃ v cs',cs=v::cs'∧R M x v∧RL M xs cs':=by
 obtain⟨hl,hr⟩:=h
 cases cs with
 |nil=>simp at hl
 |cons v cs'=>
  exact⟨v,cs',rfl,hr 0 (by simp) (by simp),by simpa using hl,fun i h1 h2=>hr (i+1) (by simpa using h1) (by simpa using h2)⟩
theorem RL.unnil{M:Mem}{cs:List Value}(h:RL M [] cs):cs=[]:=by
 have:=h.1;simp at this;exact List.eq_nil_of_length_eq_zero this.symm
theorem RL.append{M:Mem}{xs ys:List AV}{cs ds:List Value}(h:RL M xs cs)(k:RL M ys ds):RL M (xs++ys) (cs++ds):=by
 induction xs generalizing cs with
 |nil=>obtain rfl:=h.unnil;simpa using k
 |cons x xs ih=>obtain⟨v,cs',rfl,a,b⟩:=h.uncons;exact RL.cons a (ih b)
theorem RL.get{M:Mem}{xs:List AV}{cs:List Value}(h:RL M xs cs){i:Nat}{x:AV}(hx:xs[i]? =some x):∃ v,cs[i]? =some v∧R M x v:=by
 obtain⟨hi,rfl⟩:=List.getElem?_eq_some_iff.1 hx
 have h2:i<cs.length:=h.1 ▸ hi
 exact⟨cs[i],List.getElem?_eq_getElem h2,h.2 i hi h2⟩
theorem RL.drop{M:Mem}{xs:List AV}{cs:List Value}(h:RL M xs cs)(n:Nat):RL M (xs.drop n) (cs.drop n):=by
 refine⟨by simp[h.1],fun i h1 h2=> ?_⟩
 simp only[List.getElem_drop]
 exact h.2 _ _ _
theorem RL.take{M:Mem}{xs:List AV}{cs:List Value}(h:RL M xs cs)(n:Nat):RL M (xs.take n) (cs.take n):=by
 refine⟨by simp[h.1],fun i h1 h2=> ?_⟩
 simp only[List.getElem_take]
 exact h.2 _ _ _
theorem RL.set{M:Mem}{xs:List AV}{cs:List Value}(h:RL M xs cs)(n:Nat){x:AV}{v:Value}(hx:R M x v):RL M (xs.set n x) (cs.set n v):=by
 refine⟨by simp[h.1],fun i h1 h2=> ?_⟩
 simp only[List.getElem_set]
 split
 ·exact hx
 ·exact h.2 _ _ _
theorem RL.exact{M:Mem}(cs:List Value):RL M (cs.map .v) cs:=⟨by simp,fun i h1 h2=>by simpa using R.v _⟩
theorem R.of_agg{M:Mem}{xs:List AV}{v:Value}(h:R M (.agg xs) v):∃ cs,v= .agg cs.toArray∧RL M xs cs:=by
 cases h with
 |agg _ cs hl hr=>exact⟨cs,rfl,hl,hr⟩
theorem R.mk_agg{M:Mem}{xs:List AV}{cs:List Value}(h:RL M xs cs):R M (.agg xs) (.agg cs.toArray):= .agg xs cs h.1 h.2
theorem R.of_tup{M:Mem}{xs:List AV}{v:Value}(h:R M (.tup xs) v):∃ cs,v= .tuple cs.toArray∧RL M xs cs:=by
 cases h with
 |tup _ cs hl hr=>exact⟨cs,rfl,hl,hr⟩
theorem R.mk_tup{M:Mem}{xs:List AV}{cs:List Value}(h:RL M xs cs):R M (.tup xs) (.tuple cs.toArray):= .tup xs cs h.1 h.2
theorem R.of_v{M:Mem}{x v:Value}(h:R M (.v x) v):v=x:=by cases h;rfl
theorem R.of_pc{M:Mem}{l:List AV}{v:Value}(h:R M (.pc l) v):∃ b off,∃ cs:Nat→Value,v= .pointer (some ⟨b,off,none⟩)∧(∀ k,k<l.length→M b (off+k)=some (cs k))∧∀ k (h:k<l.length),R M l[k] (cs k):=by
 cases h with
 |pc _ b off cs h1 h2=>exact⟨b,off,cs,rfl,h1,h2⟩
structure Rows(M:Mem)(b off esz:Nat)(rows:List (List AV))(cs:Nat→Value):Prop where
 size:∀ i (h:i<rows.length),rows[i].length=esz
 mem:∀ k,k<rows.length * esz→M b (off+k)=some (cs k)
 rel:∀ i (h:i<rows.length) j (h2:j<rows[i].length),R M rows[i][j] (cs (i * esz+j))
theorem R.of_sl{M:Mem}{nn:Bool}{esz:Nat}{rows:List (List AV)}{v:Value}(h:R M (.sl nn esz rows) v):(∃ a:Option Addr,(nn=true→a.isSome=true)∧rows=[]∧v= .slice a 0 0)∨
  ∃ b off cap cs,v= .slice (some ⟨b,off,none⟩) rows.length cap∧Rows M b off esz rows cs∧rows.length≤cap∧cap≤maxLen:=by
 cases h with
 |nil _ _ a h=>exact .inl ⟨a,h,rfl,rfl⟩
 |sl _ _ _ b off cap cs h1 h2 h3 h4 h5=>exact .inr ⟨b,off,cap,cs,rfl,⟨h1,h2,h3⟩,h4,h5⟩
theorem R.mk_sl{M:Mem}{b off cap esz:Nat}{cs:Nat→Value}{rows:List (List AV)}(h:Rows M b off esz rows cs)(h4:rows.length≤cap)(h5:cap≤maxLen)(nn:Bool):R M (.sl nn esz rows) (.slice (some ⟨b,off,none⟩) rows.length cap):=
 .sl nn esz rows b off cap cs h.size h.mem h.rel h4 h5
theorem R.of_ms{M:Mem}{t b o n c:Nat}{v:Value}(h:R M (.ms t b o n c) v):v= .slice (some ⟨b,o,none⟩) n c:=by cases h;rfl
theorem R.of_own{M:Mem}{esz t b u c:Nat}{rows:List (List AV)}{v:Value}(h:R M (.own esz t b u c rows) v):
  ∃ off cap cs,v= .slice (some ⟨b,off,none⟩) rows.length cap∧Rows M b off esz rows cs∧rows.length≤cap∧cap≤maxLen∧(cap=0∨(off+rows.length * esz=u∧off+cap * esz≤c))∧0<esz:=by
 cases h with
 |own _ _ _ _ _ _ off cap cs h1 h2 h3 h4 h5 h6 h8=>exact⟨off,cap,cs,rfl,⟨h1,h2,h3⟩,h4,h5,h6,h8⟩
theorem R.mk_own{M:Mem}{t b u c off cap esz:Nat}{cs:Nat→Value}{rows:List (List AV)}(h:Rows M b off esz rows cs)(h4:rows.length≤cap)(h5:cap≤maxLen)(h6:cap=0∨(off+rows.length * esz=u∧off+cap * esz≤c))(h8:0<esz):
  R M (.own esz t b u c rows) (.slice (some ⟨b,off,none⟩) rows.length cap):= .own esz t b u c rows off cap cs h.size h.mem h.rel h4 h5 h6 h8
theorem R.own_sl{M:Mem}{esz t b u c:Nat}{rows:List (List AV)}{v:Value}(h:R M (.own esz t b u c rows) v)(nn:Bool):R M (.sl nn esz rows) v:=by
 obtain⟨off,cap,cs,rfl,hr,h4,h5,_⟩:=h.of_own
 exact R.mk_sl hr h4 h5 nn
theorem R.of_fl{M:Mem}{esz:Nat}{rows:List (List AV)}{v:Value}(h:R M (.fl esz rows) v):∃ b off cs,v= .slice (some ⟨b,off,none⟩) rows.length rows.length∧Rows M b off esz rows cs∧rows.length≤maxLen:=by
 cases h with
 |fl _ _ b off cs h1 h2 h3 h4=>exact⟨b,off,cs,rfl,⟨h1,h2,h3⟩,h4⟩
theorem R.mk_fl{M:Mem}{b off esz:Nat}{cs:Nat→Value}{rows:List (List AV)}(h:Rows M b off esz rows cs)(h5:rows.length≤maxLen):R M (.fl esz rows) (.slice (some ⟨b,off,none⟩) rows.length rows.length):=
 .fl esz rows b off cs h.size h.mem h.rel h5
theorem R.fl_sl{M:Mem}{esz:Nat}{rows:List (List AV)}{v:Value}(h:R M (.fl esz rows) v)(nn:Bool):R M (.sl nn esz rows) v:=by
 obtain⟨b,off,cs,rfl,hr,h5⟩:=h.of_fl
 exact R.mk_sl hr (Nat.le_refl _) h5 nn
theorem R.sl_weak{M:Mem}{esz:Nat}{rows:List (List AV)}{v:Value}(h:R M (.sl true esz rows) v):R M (.sl false esz rows) v:=by
 rcases h.of_sl with⟨a,_,rfl,rfl⟩|⟨b,off,cap,cs,rfl,hr,h4,h5⟩
 ·exact .nil _ _ _ (fun h=>nomatch h)
 ·exact R.mk_sl hr h4 h5 _
theorem R.of_lp{M:Mem}{t b o:Nat}{v:Value}(h:R M (.lp t b o) v):v= .pointer (some ⟨b,o,none⟩):=by cases h;rfl
theorem R.of_mpt{M:Mem}{t b:Nat}{v:Value}(h:R M (.mpt t b) v):v= .map (some b):=by cases h;rfl
theorem R.of_ai{M:Mem}{k:IntKind}{v:Value}(h:R M (.ai k) v):∃ n,v= .int k n:=by cases h with|ai _ n=>exact⟨n,rfl⟩
theorem R.of_cl{M:Mem}{f:FuncId}{a c:List AV}{v:Value}(h:R M (.cl f a c) v):∃ va vc:List Value,v= .func (.func f) va.toArray vc.toArray∧RL M a va∧RL M c vc:=by
 cases h with
 |cl _ _ _ va vc hl hl' h h'=>exact⟨va,vc,rfl,⟨hl,h⟩,⟨hl',h'⟩⟩
theorem R.mk_cl{M:Mem}{f:FuncId}{a c:List AV}{va vc:List Value}(h:RL M a va)(h':RL M c vc):R M (.cl f a c) (.func (.func f) va.toArray vc.toArray):= .cl f a c va vc h.1 h'.1 h.2 h'.2
theorem mul_lt_of{i n esz j:Nat}(hi:i<n)(hj:j<esz):i * esz+j<n * esz:=by
 have:(i+1) * esz≤n * esz:=Nat.mul_le_mul_right _ hi
 rw[Nat.succ_mul]at this
 omega
theorem Rows.mono{M M':Mem}(hM:M.le M'){b off esz:Nat}{rows:List (List AV)}{cs:Nat→Value}(h:Rows M b off esz rows cs):Rows M' b off esz rows cs:=
 ⟨h.size,fun k hk=>hM _ _ _ (h.mem k hk),fun i hi j hj=>(h.rel i hi j hj).mono hM⟩
theorem Rows.sub{M:Mem}{b off esz:Nat}{rows:List (List AV)}{cs:Nat→Value}(h:Rows M b off esz rows cs)(lo hi:Nat)(hh:hi≤rows.length)(hl:lo≤hi):
  Rows M b (off+lo * esz) esz ((rows.take hi).drop lo) (fun k=>cs (lo * esz+k)):=by
 have hlen:((rows.take hi).drop lo).length=hi-lo:=by simp;omega
 refine⟨fun i h1=> ?_,fun k hk=> ?_,fun i h1 j h2=> ?_⟩
 ·simp only[List.getElem_drop,List.getElem_take]
  exact h.size _ _
 ·rw[hlen]at hk
  have hb:lo * esz+k<rows.length * esz:=by
   have h1:(hi-lo) * esz+lo * esz=hi * esz:=by rw[← Nat.add_mul];congr 1;omega
   have h2:hi * esz≤rows.length * esz:=Nat.mul_le_mul_right _ hh
   omega
  rw[Nat.add_assoc]
  exact h.mem _ hb
 ·have h3:lo+i<rows.length:=by rw[hlen]at h1;omega
  have e:((rows.take hi).drop lo)[i]=rows[lo+i]:=by simp
  have hj:j<rows[lo+i].length:=by rw[← e];exact h2
  have:=h.rel (lo+i) h3 j hj
  have e2:((rows.take hi).drop lo)[i][j]=rows[lo+i][j]:=by simp
  rw[e2]
  have e3:lo * esz+(i * esz+j)=(lo+i) * esz+j:=by rw[Nat.add_mul];omega
  rw[e3]
  exact this
theorem Rows.pc{M:Mem}{b off esz:Nat}{rows:List (List AV)}{cs:Nat→Value}(h:Rows M b off esz rows cs)(i:Nat)(hi:i<rows.length):
  R M (.pc (rows.getD i [])) (.pointer (some ⟨b,off+i * esz,none⟩)):=by
 have e:rows.getD i []=rows[i]:=by simp[hi]
 rw[e]
 refine .pc _ b _ (fun k=>cs (i * esz+k)) (fun k hk=> ?_) (fun k hk=>h.rel i hi k hk)
 rw[h.size i hi]at hk
 rw[Nat.add_assoc]
 exact h.mem _ (mul_lt_of hi hk)
def AV.cells? :AV→Option (List AV)
 | .v (.agg cs)=>some (cs.toList.map .v)
 | .v (.tuple _)=>none
 | .agg xs=>some xs
 | .any=>none
 | .tup _=>none
 |x=>some [x]
def AV.acells? :AV→Option (List AV)
 | .v (.agg cs)=>some (cs.toList.map .v)
 | .agg xs=>some xs
 |_=>none
theorem R.acells{M:Mem}{x:AV}{v:Value}{l:List AV}(h:R M x v)(hl:x.acells? =some l):∃ cs,v= .agg cs∧RL M l cs.toList:=by
 cases h with
 |v=>
  cases v with
  |agg cs=>simp[AV.acells?]at hl;subst hl;exact⟨cs,rfl,RL.exact _⟩
  |_=>simp[AV.acells?]at hl
 |agg xs cs hl' hr=>simp[AV.acells?]at hl;subst hl;exact⟨cs.toArray,rfl,hl',hr⟩
 |_=>simp[AV.acells?]at hl
def AV.one:AV→Bool
 | .v x=>x.oneCell'
 | .any| .agg _| .tup _=>false
 |_=>true
theorem R.cells{M:Mem}{x:AV}{v:Value}{l:List AV}(h:R M x v)(hl:x.cells? =some l):RL M l v.cells.toList:=by
 cases h with
 |v=>
  cases v with
  |agg cs=>simp[AV.cells?]at hl;subst hl;exact RL.exact _
  |tuple _=>simp[AV.cells?]at hl
  |_=>simp only[AV.cells?,Option.some.injEq]at hl;subst hl;exact RL.cons (.v _) RL.nil
 |any=>simp[AV.cells?]at hl
 |agg xs cs hl' hr=>simp[AV.cells?]at hl;subst hl;exact⟨hl',hr⟩
 |tup=>simp[AV.cells?]at hl
 |nil nn esz a h=>simp only[AV.cells?,Option.some.injEq]at hl;subst hl;exact RL.cons (.nil nn esz a h) RL.nil
 |sl nn esz rows b off cap cs a1 a2 a3 a4 a5=>simp only[AV.cells?,Option.some.injEq]at hl;subst hl;exact RL.cons (.sl nn esz rows b off cap cs a1 a2 a3 a4 a5) RL.nil
 |ms t b o n c=>simp only[AV.cells?,Option.some.injEq]at hl;subst hl;exact RL.cons (.ms t b o n c) RL.nil
 |own esz t b u c rows off cap cs a1 a2 a3 a4 a5 a6 a8=>simp only[AV.cells?,Option.some.injEq]at hl;subst hl;exact RL.cons (.own esz t b u c rows off cap cs a1 a2 a3 a4 a5 a6 a8) RL.nil
 |pc l b off cs a1 a2=>simp only[AV.cells?,Option.some.injEq]at hl;subst hl;exact RL.cons (.pc l b off cs a1 a2) RL.nil
 |ifc t x v a=>simp only[AV.cells?,Option.some.injEq]at hl;subst hl;exact RL.cons (.ifc t x v a) RL.nil
 |lp t b o=>simp only[AV.cells?,Option.some.injEq]at hl;subst hl;exact RL.cons (.lp t b o) RL.nil
 |mpt t b=>simp only[AV.cells?,Option.some.injEq]at hl;subst hl;exact RL.cons (.mpt t b) RL.nil
 |ai k n=>simp only[AV.cells?,Option.some.injEq]at hl;subst hl;exact RL.cons (.ai k n) RL.nil
 |cl f a c va vc a1 a2 a3 a4=>simp only[AV.cells?,Option.some.injEq]at hl;subst hl;exact RL.cons (.cl f a c va vc a1 a2 a3 a4) RL.nil
 |fl esz rows b off cs a1 a2 a3 a4=>simp only[AV.cells?,Option.some.injEq]at hl;subst hl;exact RL.cons (.fl esz rows b off cs a1 a2 a3 a4) RL.nil
theorem R.one{M:Mem}{x:AV}{v:Value}(h:R M x v)(hl:x.one=true):v.oneCell'=true:=by
 cases h<;>simp_all [AV.one,Value.oneCell']
inductive Blk where
 |cells (l:List AV)
 |tail (u c:Nat)
 |map (es:List (Value×Nat×AV)) (k:Nat)
deriving Inhabited
abbrev Regs:=List (Nat×AV)
abbrev Store:=List (Nat×Nat×Blk)
def lk:Regs→Nat→AV
 |[],_=> .any
 |(i,x)::r,j=>bif Nat.beq i j then x else lk r j
def lkt:Store→Nat→Option (Nat×Blk)
 |[],_=>none
 |(i,b,x)::r,j=>bif Nat.beq i j then some (b,x)else lkt r j
def BlkOK(M:Mem)(w:World)(b:Nat):Blk→Prop
 | .cells l=>(∀ o,M b o=none)∧∃ cs t,w.heap[b]? =some (.cells cs t (0,0))∧RL M l cs.toList
 | .tail u c=>(∀ o,u≤o→M b o=none)∧∃ cs t,w.heap[b]? =some (.cells cs t (0,0))∧cs.size=c∧u≤c
 | .map es k=>(∀ o,M b o=none)∧∃ l:List MapEntry,w.heap[b]? =some (.map l.toArray k)∧l.map (fun e=>(e.key,e.born))=es.map (fun e=>(e.1,e.2.1))∧RL M (es.map (·.2.2)) (l.map (·.val))
class Glob (P:Program) where
 av:Nat→Option (List AV)
 gw:World→Prop
instance (priority:=low) Glob.empty (P:Program):Glob P:=⟨fun _=>none,fun _=>True⟩
structure Inv(P:Program)[Glob P](M:Mem)(w0:World)(σ:Store)(w:World):Prop where
 os:w.os=w0.os
 tape:w.tape=w0.tape
 output:w.output=w0.output
 size:w0.heap.size≤w.heap.size
 old:∀ k,k<w0.heap.size→w.heap[k]? =w0.heap[k]?
 imm:∀ b o v,M b o=some v→w.cell? ⟨b,o,none⟩=some v
 st:∀ e∈σ,w0.heap.size≤e.2.1∧BlkOK M w e.2.1 e.2.2
 nd:(σ.map (·.2.1)).Nodup
 gl:∀ g l,Glob.av P g=some l→R M (.pc l) (.pointer (some ⟨g,0,none⟩))
 gw:Glob.gw P w0
def RegsOK(M:Mem)(rg:Regs)(a:Act):Prop:=∀ i,R M (lk rg i) (a.tmps.getD i undef)
theorem RegsOK.mono{M M':Mem}(hM:M.le M'){rg:Regs}{a:Act}(h:RegsOK M rg a):RegsOK M' rg a:=fun i=>(h i).mono hM
def ev(rg:Regs):Operand→AV
 | .tmp t=>lk rg t
 | .const v=> .v v
 | .global g=> .v (.pointer (some ⟨g,0,none⟩))
 | .func f=> .v (.func (.func f) #[] #[])
theorem RegsOK.ev{M:Mem}{rg:Regs}{a:Act}(h:RegsOK M rg a)(x:Operand):R M (ev rg x) (a.eval x):=by
 cases x with
 |tmp t=>exact h t
 |const v=>exact .v v
 |global g=>exact .v _
 |func f=>exact .v _
def putR(d:Option Nat)(x:AV)(rg:Regs):Regs:=match d with|some d=>(d,x)::rg|none=>rg
theorem RegsOK.put{M:Mem}{rg:Regs}{a:Act}(h:RegsOK M rg a)(d:Option Nat){x:AV}{v:Value}(hd:∀ t,d=some t→t<a.tmps.size)(hx:R M x v):RegsOK M (putR d x rg) (a.put d v):=by
 cases d with
 |none=>exact h
 |some d=>
  intro i
  simp only[putR,lk,Act.put]
  by_cases e:d=i
  ·subst e
   have:=hd d rfl
   simp[Nat.beq_refl,this]
   exact hx
  ·have hb:Nat.beq d i=false:=by rw[← Bool.not_eq_true,Nat.beq_eq];exact e
   have:(a.tmps.setIfInBounds d v).getD i undef=a.tmps.getD i undef:=by
    simp[Array.getElem?_setIfInBounds_ne e]
   rw[hb,this]
   exact h i
theorem Act.size_put(a:Act)(d:Option Nat)(v:Value):(a.put d v).tmps.size=a.tmps.size:=by cases d<;>simp[Act.put]
theorem Act.defers_put(a:Act)(d:Option Nat)(v:Value):(a.put d v).defers=a.defers:=by cases d<;>simp[Act.put]
def filt:List Nat→Regs→Regs
 |[],_=>[]
 |i::l,rg=>(i,lk rg i)::filt l rg
theorem RegsOK.filt{M:Mem}{rg:Regs}{a:Act}(h:RegsOK M rg a)(l:List Nat):RegsOK M (filt l rg) a:=by
 induction l with
 |nil=>exact fun i=> .any _
 |cons t l ih=>
  intro i
  simp only[Sx.filt,lk]
  cases hb:Nat.beq t i with
  |true=>rw[Nat.eq_of_beq_eq_true hb];exact h i
  |false=>exact ih i
theorem Inv.drew{P:Program}[Glob P]{M:Mem}{w0:World}{σ:Store}{w:World}(h:Inv P M w0 σ w)(n:Nat):Inv P M w0 σ {w with drawn:=n}:=
 ⟨h.os,h.tape,h.output,h.size,h.old,h.imm,h.st,h.nd,h.gl,h.gw⟩
theorem BlkOK.lt{M:Mem}{w:World}{b:Nat}{x:Blk}(h:BlkOK M w b x):b<w.heap.size:=by
 cases x with
 |cells l=>obtain⟨_,cs,t,hh,_⟩:=h;exact(Array.getElem?_eq_some_iff.1 hh).1
 |tail u c=>obtain⟨_,cs,t,hh,_⟩:=h;exact(Array.getElem?_eq_some_iff.1 hh).1
 |map es k=>obtain⟨_,l,hh,_⟩:=h;exact(Array.getElem?_eq_some_iff.1 hh).1
theorem Inv.lt_of{P:Program}[Glob P]{M:Mem}{w0:World}{σ:Store}{w:World}(h:Inv P M w0 σ w){e:Nat×Nat×Blk}(he:e∈σ):e.2.1<w.heap.size:=(h.st e he).2.lt
theorem Inv.fresh{P:Program}[Glob P]{M:Mem}{w0:World}{σ:Store}{w:World}(h:Inv P M w0 σ w):w.heap.size∉σ.map (·.2.1):=by
 intro hm
 obtain⟨e,he,h2⟩:=List.mem_map.1 hm
 have:=h.lt_of he
 omega
theorem lkt_mem:∀ {σ:Store} {t b:Nat} {x:Blk},lkt σ t=some (b,x)→(t,b,x)∈σ
 |[],t,b,x,h=>by cases h
 |(i,b',x')::r,t,b,x,h=>by
  simp only[lkt]at h
  cases hb:Nat.beq i t with
  |true=>
   rw[hb]at h
   simp only[cond_true,Option.some.injEq,Prod.mk.injEq]at h
   obtain⟨rfl,rfl⟩:=h
   rw[Nat.eq_of_beq_eq_true hb]
   exact List.mem_cons_self
  |false=>rw[hb]at h;exact List.mem_cons_of_mem _ (lkt_mem h)
def upt:Store→Nat→Nat→Blk→Store
 |[],_,_,_=>[]
 |(i,b',x')::r,t,b,x=>bif Nat.beq i t then(t,b,x)::r else(i,b',x')::upt r t b x
theorem upt_split:∀ {σ:Store} {t b:Nat} {x:Blk},lkt σ t=some (b,x)→∃ pre post,σ=pre++(t,b,x)::post∧∀ b' x',upt σ t b' x'=pre++(t,b',x')::post
 |[],t,b,x,h=>by cases h
 |(i,b0,x0)::r,t,b,x,h=>by
  simp only[lkt]at h
  cases hb:Nat.beq i t with
  |true=>
   rw[hb]at h
   simp only[cond_true,Option.some.injEq,Prod.mk.injEq]at h
   obtain⟨rfl,rfl⟩:=h
   refine⟨[],r,by rw[Nat.eq_of_beq_eq_true hb];rfl,fun b' x'=>by simp only[upt,hb,cond_true,List.nil_append]⟩
  |false=>
   rw[hb]at h
   obtain⟨pre,post,h1,h2⟩:=upt_split h
   exact⟨(i,b0,x0)::pre,post,by rw[h1];rfl,fun b' x'=>by simp only[upt,hb,cond_false,h2,List.cons_append]⟩
theorem Inv.freshM{P:Program}[Glob P]{M:Mem}{w0:World}{σ:Store}{w:World}(h:Inv P M w0 σ w)(o:Nat):M w.heap.size o=none:=by
 cases e:M w.heap.size o with
 |none=>rfl
 |some x=>have:=World.block_lt_of_cell? _ _ (h.imm _ _ _ e);simp at this
theorem heap_alloc_lt(w:World)(o:Obj)(k:Nat)(h:k<w.heap.size):(w.alloc o).heap[k]? =w.heap[k]? :=by
 show(w.heap.push o)[k]? =_
 rw[Array.getElem?_push,if_neg (by omega)]
theorem heap_alloc_new(w:World)(o:Obj):(w.alloc o).heap[w.heap.size]? =some o:=by
 show(w.heap.push o)[w.heap.size]? =_
 rw[Array.getElem?_push,if_pos rfl]
theorem BlkOK.heap{M:Mem}{w w':World}{b:Nat}{x:Blk}(h:BlkOK M w b x)(e:w'.heap[b]? =w.heap[b]?):BlkOK M w' b x:=by
 cases x with
 |cells l=>obtain⟨a,cs,t,hh,r⟩:=h;exact⟨a,cs,t,e.trans hh,r⟩
 |tail u c=>obtain⟨a,cs,t,hh,r⟩:=h;exact⟨a,cs,t,e.trans hh,r⟩
 |map es k=>obtain⟨a,l,hh,r⟩:=h;exact⟨a,l,e.trans hh,r⟩
theorem Inv.alloc{P:Program}[Glob P]{M:Mem}{w0:World}{σ:Store}{w:World}(h:Inv P M w0 σ w)(o:Obj):Inv P M w0 σ (w.alloc o):=by
 refine⟨h.os,h.tape,h.output,by simp;have:=h.size;omega,fun k hk=> ?_,fun b o' v hv=> ?_,fun e he=> ?_,h.nd,h.gl,h.gw⟩
 ·rw[heap_alloc_lt _ _ _ (Nat.lt_of_lt_of_le hk h.size)];exact h.old k hk
 ·have:=h.imm b o' v hv
  rw[World.cell?_alloc_lt _ _ _ (World.block_lt_of_cell? _ _ this)];exact this
 ·exact⟨(h.st e he).1,(h.st e he).2.heap (heap_alloc_lt _ _ _ (h.lt_of he))⟩
theorem Inv.box{P:Program}[Glob P]{M:Mem}{w0:World}{σ:Store}{w:World}(h:Inv P M w0 σ w){cs:List Value}{l:List AV}(t:TypeId)(hl:RL M l cs)(tag:Nat):
  Inv P M w0 ((tag,w.heap.size,.cells l)::σ) (w.alloc (.cells cs.toArray t)):=by
 have h':=h.alloc (.cells cs.toArray t)
 refine⟨h'.os,h'.tape,h'.output,h'.size,h'.old,h'.imm,fun e he=> ?_,?_,h'.gl,h'.gw⟩
 ·rcases List.mem_cons.1 he with rfl|he
  ·exact⟨h.size,h.freshM,cs.toArray,t,heap_alloc_new _ _,by simpa using hl⟩
  ·exact h'.st e he
 ·simp only[List.map_cons,List.nodup_cons]
  exact⟨h.fresh,h.nd⟩
end Go.Sx
namespace Go.Sx
open Go.RowKit
inductive Res where
 |ret (x:AV)
 |pan (ch:List PanicEntry)
def RRes(M:Mem):Res→Ending→Prop
 | .ret x,.returned v=>R M x v
 | .pan ch,.panicked ch'=>ch'=ch
 |_,_=>False
def Spec(P:Program)[Glob P](f:FuncId)(as:List AV)(σ:Store)(Q:Res→Store→Prop):Prop:=
 ∀ (M:Mem) (w0 w:World) (cs:List Value),Inv P M w0 σ w→RL M as cs→
  Calls P f cs.toArray w fun e w'=>∃ M' r σ',M.le M'∧Inv P M' w0 σ' w'∧RRes M' r e∧Q r σ'
structure Pure(P:Program)[Glob P](f:FuncId)(as:List AV)(r:AV):Prop where
 sp:∀ σ,Spec P f as σ fun r' σ'=>r'= .ret r∧σ'=σ
def CallP(P:Program)[Glob P](f:FuncId)(as:List AV)(σ:Store)(K:AV→Store→Prop)(E:List PanicEntry→Store→Prop):Prop:=
 ∃ Q:Res→Store→Prop,Spec P f as σ Q∧(∀ x σ',Q (.ret x) σ'→K x σ')∧(∀ ch σ',Q (.pan ch) σ'→E ch σ')
theorem callP_congr{P:Program}[Glob P]{f:FuncId}{as as':List AV}{σ:Store}{K:AV→Store→Prop}{E:List PanicEntry→Store→Prop}(h:as=as'):CallP P f as σ K E=CallP P f as' σ K E:=by rw[h]
theorem callP_pure{P:Program}[Glob P]{f:FuncId}{as:List AV}{σ:Store}{K:AV→Store→Prop}{E:List PanicEntry→Store→Prop}{r:AV}(h:Pure P f as r)(k:K r σ):CallP P f as σ K E:=
 ⟨_,h.sp σ,fun _ _ ⟨e,e'⟩=>by cases e;subst e';exact k,fun _ _ ⟨e,_⟩=>by cases e⟩
def callable(P:Program)[Glob P](f:FuncId):Bool:=
 match P.funcs[f]? with
 |some fn=>fn.name != "runtime.NumGoroutine" && fn.body.isSome
 |none=>false
inductive LeafK where
 |int|str|bool
deriving DecidableEq
inductive EqK where
 |bool|slice|map|func|ptr
deriving DecidableEq
inductive TI where
 |str
 |int (k:IntKind)
 |sl (e:TypeId)
 |mp (k v:TypeId)
 |other
deriving DecidableEq
def tiOf:Option TypeDesc→TI
 |some .string=> .str
 |some (.int k)=> .int k
 |some (.slice e)=> .sl e
 |some (.map k v)=> .mp k v
 |_=> .other
def elU(P:Program)(t:TypeId):TI:=match P.underlying t with
 |some (.slice e)=>tiOf (P.underlying e)
 |_=> .other
def keyU(P:Program)(t:TypeId):TI:=match P.underlying t with
 |some (.map k _)=>tiOf (P.underlying k)
 |_=> .other
def opInfo(P:Program):Op→List TI
 | .convert s d _=>[tiOf (P.underlying s),elU P s,tiOf (P.underlying d),elU P d]
 | .slice t _ _ _ _=>[tiOf (P.underlying t)]
 | .insert t _ _ _| .mapUpdate t _ _ _| .mapEntry t _ _| .entryStore t _ _ _| .lookup t _ _ _=>[tiOf (P.underlying t),keyU P t]
 | .makeSlice t _ _=>[tiOf (P.underlying t),elU P t]
 |_=>[]
theorem tiOf_str{d:Option TypeDesc}(h:tiOf d= .str):d=some .string:=by unfold tiOf at h;split at h<;>first|rfl|cases h
theorem tiOf_int{d:Option TypeDesc}{k:IntKind}(h:tiOf d= .int k):d=some (.int k):=by unfold tiOf at h;split at h<;>first|(cases h;rfl)|cases h
theorem tiOf_sl{d:Option TypeDesc}{e:TypeId}(h:tiOf d= .sl e):d=some (.slice e):=by unfold tiOf at h;split at h<;>first|(cases h;rfl)|cases h
theorem tiOf_mp{d:Option TypeDesc}{k v:TypeId}(h:tiOf d= .mp k v):d=some (.map k v):=by unfold tiOf at h;split at h<;>first|(cases h;rfl)|cases h
inductive IOp where
 |mv (x:Operand)
 |pick (c a b:Operand)
 |box (t:TypeId) (x:Operand)
 |alloc (t:TypeId) (z:Value)
 |build (z:List Value) (parts:List (Nat×Nat×Operand))
 |mksl (t:TypeId) (esz:Nat) (parts:List Operand)
 |load (agg:Bool) (n:Nat) (x:Operand)
 |store (n:Nat) (x v:Operand)
 |nilck (x:Operand)
 |bin (op:BinOp) (x y:Operand)
 |eqb (neg:Bool) (k:EqK) (x y:Operand)
 |eqs (neg:Bool) (ks:List LeafK) (x y:Operand)
 |un (op:UnOp) (x:Operand)
 |cvint (k:IntKind) (x:Operand)
 |cvstr (x:Operand)
 |mkifc (t:TypeId) (x:Operand)
 |mkfn (fn:Fn) (first captured:List Operand)
 |slice (esz:Nat) (x:Operand) (lo hi:Option Operand)
 |faddr (off:Nat) (x:Operand)
 |field (agg:Bool) (off n:Nat) (x:Operand)
 |iaddr (esz:Nat) (x i:Operand)
 |iaddrA (len esz:Nat) (x i:Operand)
 |idxs (x i:Operand)
 |extract (x:Operand) (i:Nat)
 |call (f:FuncId) (args:List Operand)
 |callv (f:Operand) (args:List Operand)
 |len (str:Bool) (x:Operand)
 |append (t:TypeId) (esz bytes:Nat) (z:List Value) (x y:Operand)
 |max2 (x y:Operand)
 |min2 (x y:Operand)
 |extq (op:Op) (ty:TypeId) (ti:List TI) (args:List Operand)
 |exts (op:Op) (ty:TypeId) (ti:List TI) (args:List Operand)
def over{α:Type}(l:List α)(o:Nat)(l':List α):List α:=l.take o++l'++l.drop (o+l'.length)
theorem RL.over{M:Mem}{xs xs':List AV}{cs cs':List Value}(h:RL M xs cs)(k:RL M xs' cs')(o:Nat):RL M (over xs o xs') (over cs o cs'):=by
 unfold Sx.over
 rw[k.1]
 exact RL.append (RL.append (h.take o) k) (h.drop _)
def vcBin(op:BinOp):Value→Value→(Value→Prop)→Prop
 | .int k a,.int k' b,K=>
  match op with
  | .add=>k=k'∧K (.int k (k.wrap (a+b)))
  | .sub=>k=k'∧K (.int k (k.wrap (a-b)))
  | .mul=>k=k'∧K (.int k (k.wrap (a * b)))
  | .quo=>k=k'∧b≠0∧K (.int k (k.wrap (a.tdiv b)))
  | .rem=>k=k'∧b≠0∧K (.int k (a.tmod b))
  | .eql=>k=k'∧K (.bool (decide (a=b)))
  | .neq=>k=k'∧K (.bool (!decide (a=b)))
  | .lss=>k=k'∧K (.bool (decide (a<b)))
  | .leq=>k=k'∧K (.bool (decide (a≤b)))
  | .gtr=>k=k'∧K (.bool (decide (b<a)))
  | .geq=>k=k'∧K (.bool (decide (b≤a)))
  | .and=>k=k'∧K (.int k (bits .and k a b))
  | .or=>k=k'∧K (.int k (bits .or k a b))
  | .xor=>k=k'∧K (.int k (bits .xor k a b))
  | .andNot=>k=k'∧K (.int k (bits .andNot k a b))
  | .shl=>0≤b∧b≤k.bits∧K (.int k (k.wrap (a * 2 ^ b.toNat)))
  | .shr=>0≤b∧b≤k.bits∧K (.int k (a / 2 ^ b.toNat))
 | .string a,.string b,K=>
  match op with
  | .add=>a.size+b.size≤9223372036854775807∧K (.string (a++b))
  | .eql=>K (.bool (decide (a=b)))
  | .neq=>K (.bool (!decide (a=b)))
  | .lss=>K (.bool (Op.bytesLess a.toList b.toList))
  | .leq=>K (.bool (Op.bytesLess a.toList b.toList || decide (a=b)))
  | .gtr=>K (.bool (!(Op.bytesLess a.toList b.toList || decide (a=b))))
  | .geq=>K (.bool (!Op.bytesLess a.toList b.toList))
  |_=>False
 |_,_,_=>False
def eqV:EqK→AV→AV→Option Bool
 | .bool,.v (.bool a),.v (.bool b)=>some (a == b)
 | .slice,.sl true _ _,.v (.slice none _ _)=>some false
 | .slice,.v (.slice none _ _),.sl true _ _=>some false
 | .slice,.own ..,.v (.slice none _ _)=>some false
 | .slice,.v (.slice none _ _),.own .. =>some false
 | .slice,.ms ..,.v (.slice none _ _)=>some false
 | .slice,.v (.slice none _ _),.ms .. =>some false
 | .slice,.v (.slice (some _) _ _),.v (.slice none _ _)=>some false
 | .slice,.v (.slice none _ _),.v (.slice (some _) _ _)=>some false
 | .slice,.v (.slice none _ _),.v (.slice none _ _)=>some true
 | .map,.v (.map (some _)),.v (.map none)=>some false
 | .map,.v (.map none),.v (.map (some _))=>some false
 | .map,.v (.map none),.v (.map none)=>some true
 | .func,.v (.func ..),.v .nilFunc=>some false
 | .func,.v .nilFunc,.v (.func ..)=>some false
 | .func,.v .nilFunc,.v .nilFunc=>some true
 | .ptr,.lp ..,.v (.pointer none)=>some false
 | .ptr,.v (.pointer none),.lp .. =>some false
 | .ptr,.v (.pointer (some _)),.v (.pointer none)=>some false
 | .ptr,.v (.pointer none),.v (.pointer (some _))=>some false
 | .ptr,.v (.pointer none),.v (.pointer none)=>some true
 |_,_,_=>none
def leafEq:LeafK→AV→AV→Option Bool
 | .int,.v (.int k a),.v (.int k' b)=>if k=k' then some (decide (a=b))else none
 | .str,.v (.string a),.v (.string b)=>some (decide (a=b))
 | .bool,.v (.bool a),.v (.bool b)=>some (a == b)
 |_,_,_=>none
def eqCells:List LeafK→List AV→List AV→Option Bool
 |[],[],[]=>some true
 |k::ks,x::xs,y::ys=>match leafEq k x y with
  |some b=>(eqCells ks xs ys).map (b && ·)
  |none=>none
 |_,_,_=>none
def unV:UnOp→Value→Option Value
 | .neg,.int k n=>some (.int k (k.wrap (0-n)))
 | .not,.bool b=>some (.bool !b)
 |_,_=>none
def evs(rg:Regs):List Operand→List AV
 |[]=>[]
 |x::l=>ev rg x::evs rg l
def exact1:List AV→Option (List Value)
 |[]=>some []
 | .v x::l=>(exact1 l).map (x::·)
 |_::_=>none
def exacts:List AV→Option (List Value)
 |[]=>some []
 | .v x::l=>(exacts l).map (x::·)
 | .lp _ b o::l=>(exacts l).map (.pointer (some ⟨b,o,none⟩)::·)
 | .agg xs::l=>match exact1 xs with
  |some cs=>(exacts l).map (.agg cs.toArray::·)
  |none=>none
 |_::_=>none
def fillA:List AV→List (Nat×Nat×AV)→Option (List AV)
 |c,[]=>some c
 |c,(off,n,x)::rest=>match x.cells? with
  |some l=>if l.length=n∧off+n≤c.length then fillA (over c off l) rest else none
  |none=>none
def evp(rg:Regs):List (Nat×Nat×Operand)→List (Nat×Nat×AV)
 |[]=>[]
 |(o,n,x)::l=>(o,n,ev rg x)::evp rg l
def rowsOf(esz:Nat):List AV→Option (List (List AV))
 |[]=>some []
 |x::l=>match x.cells? with
  |some r=>if r.length=esz then(rowsOf esz l).map (r::·)else none
  |none=>none
def idx? :Option AV→Option (Option Int)
 |none=>some none
 |some (.v (.int _ i))=>some (some i)
 |_=>none
def byteRow(b:UInt8):List AV:=[.v (.int .u8 b.toNat)]
def rowsV(esz:Nat):AV→Option (List (List AV))
 | .sl _ e rows=>if e=esz then some rows else none
 | .own e _ _ _ _ rows=>if e=esz then some rows else none
 | .v (.slice none 0 0)=>some []
 | .v (.string s)=>if esz=1 then some (s.data.toList.map byteRow)else none
 |_=>none
def maxV(lt:Bool):Value→Value→Option Value
 | .int k x,.int k' y=>if k=k' then some (.int k (if lt then(if y<x then y else x)else(if y>x then y else x)))else none
 |_,_=>none
def NxV:Next→Value→Prop
 | .value v,u=>u=v
 | .skip,u=>u=undef
 |_,_=>False
def OpS(P:Program)[Glob P](op:Op)(ty:TypeId)(ti:List TI)(args:List Operand)(as:List AV)(σ:Store)(Q:AV→Store→Prop):Prop:=
 opInfo P op=ti→∀ (M:Mem) (w0 w:World) (ρ:Operand→Value),Inv P M w0 σ w→RL M as (args.map ρ)→
  ∃ nx w' M' x v σ',(execOp ρ ⟨none,op,ty, "",#[],none⟩).run P w= .ok nx w'∧NxV nx v∧M.le M'∧Inv P M' w0 σ' w'∧R M' x v∧Q x σ'
structure OpP(P:Program)[Glob P](op:Op)(ty:TypeId)(ti:List TI)(args:List Operand)(as:List AV)(r:AV):Prop where
 sp:∀ σ,OpS P op ty ti args as σ fun x σ'=>x=r∧σ'=σ
theorem OpS.mono{P:Program}[Glob P]{op:Op}{ty:TypeId}{ti:List TI}{args:List Operand}{as:List AV}{σ:Store}{Q Q':AV→Store→Prop}(h:OpS P op ty ti args as σ Q)(k:∀ x σ',Q x σ'→Q' x σ'):OpS P op ty ti args as σ Q':=
 fun hti M w0 w ρ hI hR=>let⟨nx,w',M',x,v,σ',h1,h2,h3,h4,h5,h6⟩:=h hti M w0 w ρ hI hR;⟨nx,w',M',x,v,σ',h1,h2,h3,h4,h5,k _ _ h6⟩
def vcO(P:Program)[Glob P](cfg:Nat→Nat)(d:Option Nat)(rg:Regs)(σ:Store)(K:AV→Store→Prop)(E:List PanicEntry→Store→Prop):IOp→Prop
 | .mv x=>K (ev rg x) σ
 | .pick c a b=>match ev rg c with
  | .v (.bool t)=>K (if t then ev rg a else ev rg b) σ
  |_=>False
 | .box _ x=>match(ev rg x).cells? with
  |some l=>∀ b,K (.lp (d.getD 0) b 0) ((d.getD 0,b,.cells l)::σ)
  |none=>False
 | .alloc _ z=>∀ b,K (.lp (d.getD 0) b 0) ((d.getD 0,b,.cells (z.cells.toList.map .v))::σ)
 | .build z parts=>match fillA (z.map .v) (evp rg parts)with
  |some l=>K (.agg l) σ
  |none=>False
 | .mksl _ esz parts=>match rowsOf esz (evs rg parts)with
  |some rows=>rows.length≤1000000∧match cfg (d.getD 0)with
   |0=>K (.sl true esz rows) σ
   |1=>0<esz∧∀ b,K (.own esz (d.getD 0) b (rows.length * esz) (rows.length * esz) rows) ((d.getD 0,b,.tail (rows.length * esz) (rows.length * esz))::σ)
   |3=>K (.fl esz rows) σ
   |_=>∀ b,K (.ms (d.getD 0) b 0 rows.length rows.length) ((d.getD 0,b,.cells rows.flatten)::σ)
  |none=>False
 | .load agg n x=>match ev rg x with
  | .lp t b o=>match lkt σ t with
   |some (b',.cells l)=>b=b'∧if agg then o+n≤l.length∧K (.agg ((l.drop o).take n)) σ else match l[o]? with
    |some y=>K y σ
    |none=>False
   |_=>False
  | .pc l=>if agg then n≤l.length∧K (.agg (l.take n)) σ else match l[0]? with
    |some y=>K y σ
    |none=>False
  | .v (.pointer (some ⟨g,0,none⟩))=>match Glob.av P g with
   |some l=>if agg then n≤l.length∧K (.agg (l.take n)) σ else match l[0]? with
    |some y=>K y σ
    |none=>False
   |none=>False
  |_=>False
 | .store n x y=>match ev rg x,(ev rg y).cells? with
  | .lp t b o,some l'=>match lkt σ t with
   |some (b',.cells l)=>b=b'∧l'.length=n∧l'.all AV.one=true∧o+n≤l.length∧K (.v undef) (upt σ t b (.cells (over l o l')))
   |_=>False
  |_,_=>False
 | .nilck x=>match ev rg x with
  | .v (.pointer (some a))=>K (.v (.pointer (some a))) σ
  | .lp t b o=>K (.lp t b o) σ
  | .pc l=>K (.pc l) σ
  | .v (.func (.func f) a c)=>K (.v (.func (.func f) a c)) σ
  | .cl f a c=>K (.cl f a c) σ
  |_=>False
 | .bin op x y=>match ev rg x,ev rg y with
  | .v a,.v b=>vcBin op a b fun r=>K (.v r) σ
  |_,_=>False
 | .eqb neg k x y=>match eqV k (ev rg x) (ev rg y)with
  |some b=>K (.v (.bool (b ^^ neg))) σ
  |none=>False
 | .eqs neg ks x y=>match(ev rg x).acells?,(ev rg y).acells? with
  |some xs,some ys=>match eqCells ks xs ys with
   |some b=>K (.v (.bool (b ^^ neg))) σ
   |none=>False
  |_,_=>False
 | .un op x=>match ev rg x with
  | .v a=>match unV op a with
   |some r=>K (.v r) σ
   |none=>False
  |_=>False
 | .cvint k x=>match ev rg x with
  | .v (.int _ n)=>K (.v (.int k (k.wrap n))) σ
  |_=>False
 | .cvstr x=>match ev rg x with
  | .v (.string s)=>K (.v (.string s)) σ
  |_=>False
 | .mkifc t x=>K (.ifc t (ev rg x)) σ
 | .mkfn fn first captured=>match exacts (evs rg first),exacts (evs rg captured)with
  |some a,some c=>K (.v (.func fn a.toArray c.toArray)) σ
  |_,_=>match fn with
   | .func f=>K (.cl f (evs rg first) (evs rg captured)) σ
   |_=>False
 | .slice esz x lo hi=>match idx? (lo.map (ev rg)),idx? (hi.map (ev rg))with
  |some lo,some hi=>match ev rg x with
   | .sl nn e rows=>e=esz∧0≤lo.getD 0∧lo.getD 0≤hi.getD rows.length∧hi.getD rows.length≤rows.length∧K (.sl nn esz ((rows.take (hi.getD rows.length).toNat).drop (lo.getD 0).toNat)) σ
   | .own e tg b u c rows=>e=esz∧0≤lo.getD 0∧lo.getD 0≤hi.getD rows.length∧hi.getD rows.length≤rows.length∧
     K (if hi.isNone then .own esz tg b u c (rows.drop (lo.getD 0).toNat)else .sl true esz ((rows.take (hi.getD rows.length).toNat).drop (lo.getD 0).toNat)) σ
   | .v (.slice none 0 0)=>lo.getD 0=0∧hi.getD 0=0∧K (.v (.slice none 0 0)) σ
   |_=>False
  |_,_=>False
 | .faddr off x=>match ev rg x with
  | .lp t b o=>K (.lp t b (o+off)) σ
  | .pc l=>K (.pc (l.drop off)) σ
  |_=>False
 | .field agg off n x=>match(ev rg x).acells? with
  |some l=>off+n≤l.length∧if agg then K (.agg ((l.drop off).take n)) σ else match l[off]? with
   |some y=>K y σ
   |none=>False
  |none=>False
 | .iaddr esz x i=>match ev rg i with
  | .v (.int _ i)=>match ev rg x with
   | .sl _ e rows=>e=esz∧0≤i∧i<rows.length∧K (.pc (rows.getD i.toNat [])) σ
   | .own e _ _ _ _ rows=>e=esz∧0≤i∧i<rows.length∧K (.pc (rows.getD i.toNat [])) σ
   | .ms t b o n _=>0≤i∧i<n∧K (.lp t b (o+i.toNat * esz)) σ
   |_=>False
  |_=>False
 | .iaddrA n esz x i=>match ev rg i with
  | .v (.int _ i)=>match ev rg x with
   | .lp t b o=>0≤i∧i<n∧K (.lp t b (o+i.toNat * esz)) σ
   | .pc l=>0≤i∧i<n∧K (.pc (l.drop (i.toNat * esz))) σ
   |_=>False
  |_=>False
 | .idxs x i=>match ev rg i,ev rg x with
  | .v (.int _ i),.v (.string s)=>∃ h:0≤i∧i<s.size,K (.v (.int .u8 (s[i.toNat]'(by omega)).toNat)) σ
  |_,_=>False
 | .extract x i=>match ev rg x with
  | .tup xs=>match xs[i]? with
   |some y=>K y σ
   |none=>False
  | .v (.tuple vs)=>match vs[i]? with
   |some y=>K (.v y) σ
   |none=>False
  |_=>False
 | .call f args=>CallP P f (evs rg args) σ K E
 | .callv f args=>match ev rg f with
  | .v (.func (.func f) a c)=>callable P f=true∧CallP P f (a.toList.map .v++evs rg args++c.toList.map .v) σ K E
  | .cl f a c=>callable P f=true∧CallP P f (a++evs rg args++c) σ K E
  |_=>False
 | .len true x=>match ev rg x with
  | .v (.string s)=>K (.v (.int .i64 s.size)) σ
  |_=>False
 | .len false x=>match ev rg x with
  | .v (.slice _ n _)=>K (.v (.int .i64 n)) σ
  | .ms _ _ _ n _=>K (.v (.int .i64 n)) σ
  | .sl _ _ rows=>(rows.length≤maxLen→K (.v (.int .i64 rows.length)) σ)
  | .own _ _ _ _ _ rows=>(rows.length≤maxLen→K (.v (.int .i64 rows.length)) σ)
  |_=>False
 | .append _ esz bytes _ x y=>match ev rg x,rowsV esz (ev rg y)with
  | .v (.slice none 0 0),some rows'=>rows'.length * bytes≤35184372088832∧
    (rows'=[]→K (.v (.slice none 0 0)) σ)∧(rows'≠[]→∀ b u c,K (.own esz (d.getD 0) b u c rows') ((d.getD 0,b,.tail u c)::σ))
  | .own e tg b u c rows,some rows'=>e=esz∧lkt σ tg=some (b,.tail u c)∧(rows.length+rows'.length) * bytes≤35184372088832∧rows'.all (fun r=>r.all AV.one)=true∧
    ∀ b' u' c',K (.own esz tg b' u' c' (rows++rows')) (upt σ tg b' (.tail u' c'))
  | .fl e rows,some rows'=>e=esz∧(rows.length+rows'.length) * bytes≤35184372088832∧(rows'=[]→K (.fl esz rows) σ)∧(rows'≠[]→
    ∀ b u c,K (.own esz (d.getD 0) b u c (rows++rows')) ((d.getD 0,b,.tail u c)::σ))
  |_,_=>False
 | .max2 x y=>match ev rg x,ev rg y with
  | .v a,.v b=>match maxV false a b with
   |some r=>K (.v r) σ
   |none=>False
  |_,_=>False
 | .min2 x y=>match ev rg x,ev rg y with
  | .v a,.v b=>match maxV true a b with
   |some r=>K (.v r) σ
   |none=>False
  |_,_=>False
 | .extq op ty ti args=>OpS P op ty ti args (evs rg args) σ K
 | .exts op ty ti args=>OpS P op ty ti args (evs rg args) σ K
end Go.Sx
