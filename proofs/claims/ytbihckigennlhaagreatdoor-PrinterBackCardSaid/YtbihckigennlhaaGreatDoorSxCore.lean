/-
  The layer Sx, first part: abstract values, what they stand for in a world, the invariant of a walk. Over any program.
-/
import Derived.Orders
import Derived.WalkKit
set_option linter.unusedVariables false
set_option linter.unusedSimpArgs false
set_option linter.unusedSectionVars false
namespace Go.Sx
inductive AV where
 |v (x:Value)
 |any
 |agg (xs:List AV)
 |tup (xs:List AV)
 |sl (nn:Bool) (esz:Nat) (rows:List (List AV))
 |own (esz t b u c:Nat) (rows:List (List AV))
 |ms (t b o n c:Nat)
 |pc (l:List AV)
 |ifc (t:TypeId) (x:AV)
 |lp (t b o:Nat)
 |mpt (t b:Nat)
 |ai (k:IntKind)
 |cl (f:FuncId) (a c:List AV)
 |fl (esz:Nat) (rows:List (List AV))
deriving Inhabited
abbrev Mem:=Nat→Nat→Option Value
def Mem.le(M M':Mem):Prop:=∀ b o v,M b o=some v→M' b o=some v
theorem Mem.le.refl(M:Mem):M.le M:=fun _ _ _ h=>h
theorem Mem.le.trans{A B C:Mem}(h:A.le B)(k:B.le C):A.le C:=fun b o v x=>k b o v (h b o v x)
inductive R(M:Mem):AV→Value→Prop
 |v (x:Value):R M (.v x) x
 |any (x:Value):R M .any x
 |agg (xs:List AV) (cs:List Value) (hl:xs.length=cs.length) (h:∀ i (h1:i<xs.length) (h2:i<cs.length),R M xs[i] cs[i]):R M (.agg xs) (.agg cs.toArray)
 |tup (xs:List AV) (cs:List Value) (hl:xs.length=cs.length) (h:∀ i (h1:i<xs.length) (h2:i<cs.length),R M xs[i] cs[i]):R M (.tup xs) (.tuple cs.toArray)
 |nil (nn:Bool) (esz:Nat) (a:Option Addr) (h:nn=true→a.isSome=true):R M (.sl nn esz []) (.slice a 0 0)
 |sl (nn:Bool) (esz:Nat) (rows:List (List AV)) (b off cap:Nat) (cs:Nat→Value) (hsz:∀ i (h:i<rows.length),rows[i].length=esz)
   (hM:∀ k,k<rows.length * esz→M b (off+k)=some (cs k))
   (hR:∀ i (h:i<rows.length) j (h2:j<rows[i].length),R M rows[i][j] (cs (i * esz+j)))
   (hc:rows.length≤cap) (hm:cap≤maxLen):R M (.sl nn esz rows) (.slice (some ⟨b,off,none⟩) rows.length cap)
 |ms (t b o n c:Nat):R M (.ms t b o n c) (.slice (some ⟨b,o,none⟩) n c)
 |own (esz t b u c:Nat) (rows:List (List AV)) (off cap:Nat) (cs:Nat→Value) (hsz:∀ i (h:i<rows.length),rows[i].length=esz)
   (hM:∀ k,k<rows.length * esz→M b (off+k)=some (cs k))
   (hR:∀ i (h:i<rows.length) j (h2:j<rows[i].length),R M rows[i][j] (cs (i * esz+j)))
   (hc:rows.length≤cap) (hm:cap≤maxLen) (hu:cap=0∨(off+rows.length * esz=u∧off+cap * esz≤c)) (he:0<esz):R M (.own esz t b u c rows) (.slice (some ⟨b,off,none⟩) rows.length cap)
 |pc (l:List AV) (b off:Nat) (cs:Nat→Value) (hM:∀ k,k<l.length→M b (off+k)=some (cs k))
   (hR:∀ k (h:k<l.length),R M l[k] (cs k)):R M (.pc l) (.pointer (some ⟨b,off,none⟩))
 |ifc (t:TypeId) (x:AV) (v:Value) (h:R M x v):R M (.ifc t x) (.iface t v)
 |lp (t b o:Nat):R M (.lp t b o) (.pointer (some ⟨b,o,none⟩))
 |mpt (t b:Nat):R M (.mpt t b) (.map (some b))
 |ai (k:IntKind) (n:Int):R M (.ai k) (.int k n)
 |cl (f:FuncId) (a c:List AV) (va vc:List Value) (hl:a.length=va.length) (hl':c.length=vc.length) (h:∀ i (h1:i<a.length) (h2:i<va.length),R M a[i] va[i])
   (h':∀ i (h1:i<c.length) (h2:i<vc.length),R M c[i] vc[i]):R M (.cl f a c) (.func (.func f) va.toArray vc.toArray)
 |fl (esz:Nat) (rows:List (List AV)) (b off:Nat) (cs:Nat→Value) (hsz:∀ i (h:i<rows.length),rows[i].length=esz)
   (hM:∀ k,k<rows.length * esz→M b (off+k)=some (cs k))
   (hR:∀ i (h:i<rows.length) j (h2:j<rows[i].length),R M rows[i][j] (cs (i * esz+j)))
   (hm:rows.length≤maxLen):R M (.fl esz rows) (.slice (some ⟨b,off,none⟩) rows.length rows.length)
theorem R.mono{M M':Mem}(hM:M.le M'){x:AV}{v:Value}(h:R M x v):R M' x v:=by
 induction h with
 |v x=>exact .v x
 |any x=>exact .any x
 |agg xs cs hl _ ih=>exact .agg xs cs hl ih
 |tup xs cs hl _ ih=>exact .tup xs cs hl ih
 |nil nn esz a h=>exact .nil nn esz a h
 |sl nn esz rows b off cap cs hsz hm _ hc hx ih=>exact .sl nn esz rows b off cap cs hsz (fun k hk=>hM _ _ _ (hm k hk)) ih hc hx
 |ms t b o n c=>exact .ms t b o n c
 |own esz t b u c rows off cap cs hsz hm _ hc hx hu he ih=>exact .own esz t b u c rows off cap cs hsz (fun k hk=>hM _ _ _ (hm k hk)) ih hc hx hu he
 |pc l b off cs hm _ ih=>exact .pc l b off cs (fun k hk=>hM _ _ _ (hm k hk)) ih
 |ifc t x v _ ih=>exact .ifc t x v ih
 |lp t b o=>exact .lp t b o
 |mpt t b=>exact .mpt t b
 |ai k n=>exact .ai k n
 |cl f a c va vc hl hl' _ _ ih ih'=>exact .cl f a c va vc hl hl' ih ih'
 |fl esz rows b off cs hsz hm _ hx ih=>exact .fl esz rows b off cs hsz (fun k hk=>hM _ _ _ (hm k hk)) ih hx
def RL(M:Mem)(xs:List AV)(cs:List Value):Prop:=xs.length=cs.length∧∀ i (h1:i<xs.length) (h2:i<cs.length),R M xs[i] cs[i]
theorem RL.mono{M M':Mem}(hM:M.le M'){xs:List AV}{cs:List Value}(h:RL M xs cs):RL M' xs cs:=⟨h.1,fun i a b=>(h.2 i a b).mono hM⟩
theorem RL.nil{M:Mem}:RL M [] []:=⟨rfl,fun i h=>absurd h (by simp)⟩
theorem RL.cons{M:Mem}{x:AV}{v:Value}{xs:List AV}{cs:List Value}(h:R M x v)(t:RL M xs cs):RL M (x::xs) (v::cs):=by
 refine⟨by simp[t.1],fun i h1 h2=> ?_⟩
 cases i with
 |zero=>exact h
 |succ i=>simpa using t.2 i (by simpa using h1) (by simpa using h2)
theorem RL.uncons{M:Mem}{x:AV}{xs:List AV}{cs:List Value}(h:RL M (x::xs) cs):∃ v cs',cs=v::cs'∧R M x v∧RL M xs cs':=by
 obtain⟨hl,hr⟩:=h
 cases cs with
 |nil=>simp at hl
 |cons v cs'=>
  exact⟨v,cs',rfl,hr 0 (by simp) (by simp),by simpa using hl,fun i h1 h2=>hr (i+1) (by simpa using h1) (by simpa using h2)⟩
theorem RL.unnil{M:Mem}{cs:List Value}(h:RL M [] cs):cs=[]:=by
 have:=h.1;simp at this;exact List.eq_nil_of_length_eq_zero this.symm
theorem RL.append{M:Mem}{xs ys:List AV}{cs ds:List Value}(h:RL M xs cs)(k:RL M ys ds):RL M (xs++ys) (cs++ds):=by
 induction xs generalizing cs with
 |nil=>obtain rfl:=h.unnil;simpa using k
 |cons x xs ih=>obtain⟨v,cs',rfl,a,b⟩:=h.uncons;exact RL.cons a (ih b)
theorem RL.get{M:Mem}{xs:List AV}{cs:List Value}(h:RL M xs cs){i:Nat}{x:AV}(hx:xs[i]? =some x):∃ v,cs[i]? =some v∧R M x v:=by
 obtain⟨hi,rfl⟩:=List.getElem?_eq_some_iff.1 hx
 have h2:i<cs.length:=h.1 ▸ hi
 exact⟨cs[i],List.getElem?_eq_getElem h2,h.2 i hi h2⟩
theorem RL.drop{M:Mem}{xs:List AV}{cs:List Value}(h:RL M xs cs)(n:Nat):RL M (xs.drop n) (cs.drop n):=by
 refine⟨by simp[h.1],fun i h1 h2=> ?_⟩
 simp only[List.getElem_drop]
 exact h.2 _ _ _
theorem RL.take{M:Mem}{xs:List AV}{cs:List Value}(h:RL M xs cs)(n:Nat):RL M (xs.take n) (cs.take n):=by
 refine⟨by simp[h.1],fun i h1 h2=> ?_⟩
 simp only[List.getElem_take]
 exact h.2 _ _ _
theorem RL.set{M:Mem}{xs:List AV}{cs:List Value}(h:RL M xs cs)(n:Nat){x:AV}{v:Value}(hx:R M x v):RL M (xs.set n x) (cs.set n v):=by
 refine⟨by simp[h.1],fun i h1 h2=> ?_⟩
 simp only[List.getElem_set]
 split
 ·exact hx
 ·exact h.2 _ _ _
theorem RL.exact{M:Mem}(cs:List Value):RL M (cs.map .v) cs:=⟨by simp,fun i h1 h2=>by simpa using R.v _⟩
theorem R.of_agg{M:Mem}{xs:List AV}{v:Value}(h:R M (.agg xs) v):∃ cs,v= .agg cs.toArray∧RL M xs cs:=by
 cases h with
 |agg _ cs hl hr=>exact⟨cs,rfl,hl,hr⟩
theorem R.mk_agg{M:Mem}{xs:List AV}{cs:List Value}(h:RL M xs cs):R M (.agg xs) (.agg cs.toArray):= .agg xs cs h.1 h.2
theorem R.of_tup{M:Mem}{xs:List AV}{v:Value}(h:R M (.tup xs) v):∃ cs,v= .tuple cs.toArray∧RL M xs cs:=by
 cases h with
 |tup _ cs hl hr=>exact⟨cs,rfl,hl,hr⟩
theorem R.mk_tup{M:Mem}{xs:List AV}{cs:List Value}(h:RL M xs cs):R M (.tup xs) (.tuple cs.toArray):= .tup xs cs h.1 h.2
theorem R.of_v{M:Mem}{x v:Value}(h:R M (.v x) v):v=x:=by cases h;rfl
theorem R.of_pc{M:Mem}{l:List AV}{v:Value}(h:R M (.pc l) v):∃ b off,∃ cs:Nat→Value,v= .pointer (some ⟨b,off,none⟩)∧(∀ k,k<l.length→M b (off+k)=some (cs k))∧∀ k (h:k<l.length),R M l[k] (cs k):=by
 cases h with
 |pc _ b off cs h1 h2=>exact⟨b,off,cs,rfl,h1,h2⟩
structure Rows(M:Mem)(b off esz:Nat)(rows:List (List AV))(cs:Nat→Value):Prop where
 size:∀ i (h:i<rows.length),rows[i].length=esz
 mem:∀ k,k<rows.length * esz→M b (off+k)=some (cs k)
 rel:∀ i (h:i<rows.length) j (h2:j<rows[i].length),R M rows[i][j] (cs (i * esz+j))
theorem R.of_sl{M:Mem}{nn:Bool}{esz:Nat}{rows:List (List AV)}{v:Value}(h:R M (.sl nn esz rows) v):(∃ a:Option Addr,(nn=true→a.isSome=true)∧rows=[]∧v= .slice a 0 0)∨
  ∃ b off cap cs,v= .slice (some ⟨b,off,none⟩) rows.length cap∧Rows M b off esz rows cs∧rows.length≤cap∧cap≤maxLen:=by
 cases h with
 |nil _ _ a h=>exact .inl ⟨a,h,rfl,rfl⟩
 |sl _ _ _ b off cap cs h1 h2 h3 h4 h5=>exact .inr ⟨b,off,cap,cs,rfl,⟨h1,h2,h3⟩,h4,h5⟩
theorem R.mk_sl{M:Mem}{b off cap esz:Nat}{cs:Nat→Value}{rows:List (List AV)}(h:Rows M b off esz rows cs)(h4:rows.length≤cap)(h5:cap≤maxLen)(nn:Bool):R M (.sl nn esz rows) (.slice (some ⟨b,off,none⟩) rows.length cap):=
 .sl nn esz rows b off cap cs h.size h.mem h.rel h4 h5
theorem R.of_ms{M:Mem}{t b o n c:Nat}{v:Value}(h:R M (.ms t b o n c) v):v= .slice (some ⟨b,o,none⟩) n c:=by cases h;rfl
theorem R.of_own{M:Mem}{esz t b u c:Nat}{rows:List (List AV)}{v:Value}(h:R M (.own esz t b u c rows) v):
  ∃ off cap cs,v= .slice (some ⟨b,off,none⟩) rows.length cap∧Rows M b off esz rows cs∧rows.length≤cap∧cap≤maxLen∧(cap=0∨(off+rows.length * esz=u∧off+cap * esz≤c))∧0<esz:=by
 cases h with
 |own _ _ _ _ _ _ off cap cs h1 h2 h3 h4 h5 h6 h8=>exact⟨off,cap,cs,rfl,⟨h1,h2,h3⟩,h4,h5,h6,h8⟩
theorem R.mk_own{M:Mem}{t b u c off cap esz:Nat}{cs:Nat→Value}{rows:List (List AV)}(h:Rows M b off esz rows cs)(h4:rows.length≤cap)(h5:cap≤maxLen)(h6:cap=0∨(off+rows.length * esz=u∧off+cap * esz≤c))(h8:0<esz):
  R M (.own esz t b u c rows) (.slice (some ⟨b,off,none⟩) rows.length cap):= .own esz t b u c rows off cap cs h.size h.mem h.rel h4 h5 h6 h8
theorem R.own_sl{M:Mem}{esz t b u c:Nat}{rows:List (List AV)}{v:Value}(h:R M (.own esz t b u c rows) v)(nn:Bool):R M (.sl nn esz rows) v:=by
 obtain⟨off,cap,cs,rfl,hr,h4,h5,_⟩:=h.of_own
 exact R.mk_sl hr h4 h5 nn
theorem R.of_fl{M:Mem}{esz:Nat}{rows:List (List AV)}{v:Value}(h:R M (.fl esz rows) v):∃ b off cs,v= .slice (some ⟨b,off,none⟩) rows.length rows.length∧Rows M b off esz rows cs∧rows.length≤maxLen:=by
 cases h with
 |fl _ _ b off cs h1 h2 h3 h4=>exact⟨b,off,cs,rfl,⟨h1,h2,h3⟩,h4⟩
theorem R.mk_fl{M:Mem}{b off esz:Nat}{cs:Nat→Value}{rows:List (List AV)}(h:Rows M b off esz rows cs)(h5:rows.length≤maxLen):R M (.fl esz rows) (.slice (some ⟨b,off,none⟩) rows.length rows.length):=
 .fl esz rows b off cs h.size h.mem h.rel h5
theorem R.fl_sl{M:Mem}{esz:Nat}{rows:List (List AV)}{v:Value}(h:R M (.fl esz rows) v)(nn:Bool):R M (.sl nn esz rows) v:=by
 obtain⟨b,off,cs,rfl,hr,h5⟩:=h.of_fl
 exact R.mk_sl hr (Nat.le_refl _) h5 nn
theorem R.sl_weak{M:Mem}{esz:Nat}{rows:List (List AV)}{v:Value}(h:R M (.sl true esz rows) v):R M (.sl false esz rows) v:=by
 rcases h.of_sl with⟨a,_,rfl,rfl⟩|⟨b,off,cap,cs,rfl,hr,h4,h5⟩
 ·exact .nil _ _ _ (fun h=>nomatch h)
 ·exact R.mk_sl hr h4 h5 _
theorem R.of_lp{M:Mem}{t b o:Nat}{v:Value}(h:R M (.lp t b o) v):v= .pointer (some ⟨b,o,none⟩):=by cases h;rfl
theorem R.of_mpt{M:Mem}{t b:Nat}{v:Value}(h:R M (.mpt t b) v):v= .map (some b):=by cases h;rfl
theorem R.of_ai{M:Mem}{k:IntKind}{v:Value}(h:R M (.ai k) v):∃ n,v= .int k n:=by cases h with|ai _ n=>exact⟨n,rfl⟩
theorem R.of_cl{M:Mem}{f:FuncId}{a c:List AV}{v:Value}(h:R M (.cl f a c) v):∃ va vc:List Value,v= .func (.func f) va.toArray vc.toArray∧RL M a va∧RL M c vc:=by
 cases h with
 |cl _ _ _ va vc hl hl' h h'=>exact⟨va,vc,rfl,⟨hl,h⟩,⟨hl',h'⟩⟩
theorem R.mk_cl{M:Mem}{f:FuncId}{a c:List AV}{va vc:List Value}(h:RL M a va)(h':RL M c vc):R M (.cl f a c) (.func (.func f) va.toArray vc.toArray):= .cl f a c va vc h.1 h'.1 h.2 h'.2
theorem R.of_ifc{M:Mem}{t:TypeId}{x:AV}{v:Value}(h:R M (.ifc t x) v):∃ u,v= .iface t u∧R M x u:=by
 cases h with
 |ifc _ _ u h=>exact⟨u,rfl,h⟩
theorem mul_lt_of{i n esz j:Nat}(hi:i<n)(hj:j<esz):i * esz+j<n * esz:=by
 have:(i+1) * esz≤n * esz:=Nat.mul_le_mul_right _ hi
 rw[Nat.succ_mul]at this
 omega
theorem Rows.mono{M M':Mem}(hM:M.le M'){b off esz:Nat}{rows:List (List AV)}{cs:Nat→Value}(h:Rows M b off esz rows cs):Rows M' b off esz rows cs:=
 ⟨h.size,fun k hk=>hM _ _ _ (h.mem k hk),fun i hi j hj=>(h.rel i hi j hj).mono hM⟩
theorem Rows.sub{M:Mem}{b off esz:Nat}{rows:List (List AV)}{cs:Nat→Value}(h:Rows M b off esz rows cs)(lo hi:Nat)(hh:hi≤rows.length)(hl:lo≤hi):
  Rows M b (off+lo * esz) esz ((rows.take hi).drop lo) (fun k=>cs (lo * esz+k)):=by
 have hlen:((rows.take hi).drop lo).length=hi-lo:=by simp;omega
 refine⟨fun i h1=> ?_,fun k hk=> ?_,fun i h1 j h2=> ?_⟩
 ·simp only[List.getElem_drop,List.getElem_take]
  exact h.size _ _
 ·rw[hlen]at hk
  have hb:lo * esz+k<rows.length * esz:=by
   have h1:(hi-lo) * esz+lo * esz=hi * esz:=by rw[← Nat.add_mul];congr 1;omega
   have h2:hi * esz≤rows.length * esz:=Nat.mul_le_mul_right _ hh
   omega
  rw[Nat.add_assoc]
  exact h.mem _ hb
 ·have h3:lo+i<rows.length:=by rw[hlen]at h1;omega
  have e:((rows.take hi).drop lo)[i]=rows[lo+i]:=by simp
  have hj:j<rows[lo+i].length:=by rw[← e];exact h2
  have:=h.rel (lo+i) h3 j hj
  have e2:((rows.take hi).drop lo)[i][j]=rows[lo+i][j]:=by simp
  rw[e2]
  have e3:lo * esz+(i * esz+j)=(lo+i) * esz+j:=by rw[Nat.add_mul];omega
  rw[e3]
  exact this
theorem Rows.pc{M:Mem}{b off esz:Nat}{rows:List (List AV)}{cs:Nat→Value}(h:Rows M b off esz rows cs)(i:Nat)(hi:i<rows.length):
  R M (.pc (rows.getD i [])) (.pointer (some ⟨b,off+i * esz,none⟩)):=by
 have e:rows.getD i []=rows[i]:=by simp[hi]
 rw[e]
 refine .pc _ b _ (fun k=>cs (i * esz+k)) (fun k hk=> ?_) (fun k hk=>h.rel i hi k hk)
 rw[h.size i hi]at hk
 rw[Nat.add_assoc]
 exact h.mem _ (mul_lt_of hi hk)
def AV.cells? :AV→Option (List AV)
 | .v (.agg cs)=>some (cs.toList.map .v)
 | .v (.tuple _)=>none
 | .agg xs=>some xs
 | .any=>none
 | .tup _=>none
 |x=>some [x]
def AV.acells? :AV→Option (List AV)
 | .v (.agg cs)=>some (cs.toList.map .v)
 | .agg xs=>some xs
 |_=>none
theorem R.acells{M:Mem}{x:AV}{v:Value}{l:List AV}(h:R M x v)(hl:x.acells? =some l):∃ cs,v= .agg cs∧RL M l cs.toList:=by
 cases h with
 |v=>
  cases v with
  |agg cs=>simp[AV.acells?]at hl;subst hl;exact⟨cs,rfl,RL.exact _⟩
  |_=>simp[AV.acells?]at hl
 |agg xs cs hl' hr=>simp[AV.acells?]at hl;subst hl;exact⟨cs.toArray,rfl,hl',hr⟩
 |_=>simp[AV.acells?]at hl
def AV.one:AV→Bool
 | .v x=>x.oneCell'
 | .any| .agg _| .tup _=>false
 |_=>true
theorem R.cells{M:Mem}{x:AV}{v:Value}{l:List AV}(h:R M x v)(hl:x.cells? =some l):RL M l v.cells.toList:=by
 cases h with
 |v=>
  cases v with
  |agg cs=>simp[AV.cells?]at hl;subst hl;exact RL.exact _
  |tuple _=>simp[AV.cells?]at hl
  |_=>simp only[AV.cells?,Option.some.injEq]at hl;subst hl;exact RL.cons (.v _) RL.nil
 |any=>simp[AV.cells?]at hl
 |agg xs cs hl' hr=>simp[AV.cells?]at hl;subst hl;exact⟨hl',hr⟩
 |tup=>simp[AV.cells?]at hl
 |nil nn esz a h=>simp only[AV.cells?,Option.some.injEq]at hl;subst hl;exact RL.cons (.nil nn esz a h) RL.nil
 |sl nn esz rows b off cap cs a1 a2 a3 a4 a5=>simp only[AV.cells?,Option.some.injEq]at hl;subst hl;exact RL.cons (.sl nn esz rows b off cap cs a1 a2 a3 a4 a5) RL.nil
 |ms t b o n c=>simp only[AV.cells?,Option.some.injEq]at hl;subst hl;exact RL.cons (.ms t b o n c) RL.nil
 |own esz t b u c rows off cap cs a1 a2 a3 a4 a5 a6 a8=>simp only[AV.cells?,Option.some.injEq]at hl;subst hl;exact RL.cons (.own esz t b u c rows off cap cs a1 a2 a3 a4 a5 a6 a8) RL.nil
 |pc l b off cs a1 a2=>simp only[AV.cells?,Option.some.injEq]at hl;subst hl;exact RL.cons (.pc l b off cs a1 a2) RL.nil
 |ifc t x v a=>simp only[AV.cells?,Option.some.injEq]at hl;subst hl;exact RL.cons (.ifc t x v a) RL.nil
 |lp t b o=>simp only[AV.cells?,Option.some.injEq]at hl;subst hl;exact RL.cons (.lp t b o) RL.nil
 |mpt t b=>simp only[AV.cells?,Option.some.injEq]at hl;subst hl;exact RL.cons (.mpt t b) RL.nil
 |ai k n=>simp only[AV.cells?,Option.some.injEq]at hl;subst hl;exact RL.cons (.ai k n) RL.nil
 |cl f a c va vc a1 a2 a3 a4=>simp only[AV.cells?,Option.some.injEq]at hl;subst hl;exact RL.cons (.cl f a c va vc a1 a2 a3 a4) RL.nil
 |fl esz rows b off cs a1 a2 a3 a4=>simp only[AV.cells?,Option.some.injEq]at hl;subst hl;exact RL.cons (.fl esz rows b off cs a1 a2 a3 a4) RL.nil
theorem R.one{M:Mem}{x:AV}{v:Value}(h:R M x v)(hl:x.one=true):v.oneCell'=true:=by
 cases h<;>simp_all [AV.one,Value.oneCell']
inductive Blk where
 |cells (l:List AV)
 |tail (u c:Nat)
 |map (es:List (Value×Nat×AV)) (k:Nat)
deriving Inhabited
abbrev Regs:=List (Nat×AV)
abbrev Store:=List (Nat×Nat×Blk)
def lk:Regs→Nat→AV
 |[],_=> .any
 |(i,x)::r,j=>bif Nat.beq i j then x else lk r j
def lkt:Store→Nat→Option (Nat×Blk)
 |[],_=>none
 |(i,b,x)::r,j=>bif Nat.beq i j then some (b,x)else lkt r j
def BlkOK(M:Mem)(w:World)(b:Nat):Blk→Prop
 | .cells l=>(∀ o,M b o=none)∧∃ cs t,w.heap[b]? =some (.cells cs t (0,0))∧RL M l cs.toList
 | .tail u c=>(∀ o,u≤o→M b o=none)∧∃ cs t,w.heap[b]? =some (.cells cs t (0,0))∧cs.size=c∧u≤c
 | .map es k=>(∀ o,M b o=none)∧∃ l:List MapEntry,w.heap[b]? =some (.map l.toArray k)∧l.map (fun e=>(e.key,e.born))=es.map (fun e=>(e.1,e.2.1))∧RL M (es.map (·.2.2)) (l.map (·.val))
class Glob (P:Program) where
 av:Nat→Option (List AV)
 gw:World→Prop
 df:List Deferred:=[]
instance (priority:=low) Glob.empty (P:Program):Glob P:=⟨fun _=>none,fun _=>True,[]⟩
class NoD (P:Program) [Glob P]:Prop where
 h:Glob.df P=[]
instance (priority:=low) NoD.empty (P:Program): @NoD P (Glob.empty P):= @NoD.mk P (Glob.empty P) rfl
structure Base extends World where
 bm:Mem
instance:Coe Base World:=⟨Base.toWorld⟩
structure Inv(P:Program)[Glob P](M:Mem)(w0:Base)(σ:Store)(w:World):Prop where
 os:w.os=w0.os
 tape:w.tape=w0.tape
 output:w.output=w0.output
 size:w0.heap.size≤w.heap.size
 old:∀ k,k<w0.heap.size→w.heap[k]? =w0.heap[k]?
 imm:∀ b o v,M b o=some v→w.cell? ⟨b,o,none⟩=some v
 st:∀ e∈σ,w0.heap.size≤e.2.1∧BlkOK M w e.2.1 e.2.2
 nd:(σ.map (·.2.1)).Nodup
 gl:∀ g l,Glob.av P g=some l→R M (.pc l) (.pointer (some ⟨g,0,none⟩))
 gw:Glob.gw P w0
 bm:∀ b o v,M b o=some v→b<w0.heap.size→w0.bm b o=some v
def RegsOK(M:Mem)(rg:Regs)(a:Act):Prop:=∀ i,R M (lk rg i) (a.tmps.getD i undef)
theorem RegsOK.mono{M M':Mem}(hM:M.le M'){rg:Regs}{a:Act}(h:RegsOK M rg a):RegsOK M' rg a:=fun i=>(h i).mono hM
def ev(rg:Regs):Operand→AV
 | .tmp t=>lk rg t
 | .const v=> .v v
 | .global g=> .v (.pointer (some ⟨g,0,none⟩))
 | .func f=> .v (.func (.func f) #[] #[])
theorem RegsOK.ev{M:Mem}{rg:Regs}{a:Act}(h:RegsOK M rg a)(x:Operand):R M (ev rg x) (a.eval x):=by
 cases x with
 |tmp t=>exact h t
 |const v=>exact .v v
 |global g=>exact .v _
 |func f=>exact .v _
def putR(d:Option Nat)(x:AV)(rg:Regs):Regs:=match d with|some d=>(d,x)::rg|none=>rg
theorem RegsOK.put{M:Mem}{rg:Regs}{a:Act}(h:RegsOK M rg a)(d:Option Nat){x:AV}{v:Value}(hd:∀ t,d=some t→t<a.tmps.size)(hx:R M x v):RegsOK M (putR d x rg) (a.put d v):=by
 cases d with
 |none=>exact h
 |some d=>
  intro i
  simp only[putR,lk,Act.put]
  by_cases e:d=i
  ·subst e
   have:=hd d rfl
   simp[Nat.beq_refl,this]
   exact hx
  ·have hb:Nat.beq d i=false:=by rw[← Bool.not_eq_true,Nat.beq_eq];exact e
   have:(a.tmps.setIfInBounds d v).getD i undef=a.tmps.getD i undef:=by
    simp[Array.getElem?_setIfInBounds_ne e]
   rw[hb,this]
   exact h i
theorem Act.size_put(a:Act)(d:Option Nat)(v:Value):(a.put d v).tmps.size=a.tmps.size:=by cases d<;>simp[Act.put]
theorem Act.defers_put(a:Act)(d:Option Nat)(v:Value):(a.put d v).defers=a.defers:=by cases d<;>simp[Act.put]
def filt:List Nat→Regs→Regs
 |[],_=>[]
 |i::l,rg=>(i,lk rg i)::filt l rg
theorem RegsOK.filt{M:Mem}{rg:Regs}{a:Act}(h:RegsOK M rg a)(l:List Nat):RegsOK M (filt l rg) a:=by
 induction l with
 |nil=>exact fun i=> .any _
 |cons t l ih=>
  intro i
  simp only[Sx.filt,lk]
  cases hb:Nat.beq t i with
  |true=>rw[Nat.eq_of_beq_eq_true hb];exact h i
  |false=>exact ih i
theorem Inv.drew{P:Program}[Glob P]{M:Mem}{w0:Base}{σ:Store}{w:World}(h:Inv P M w0 σ w)(n:Nat):Inv P M w0 σ {w with drawn:=n}:=
 ⟨h.os,h.tape,h.output,h.size,h.old,h.imm,h.st,h.nd,h.gl,h.gw,h.bm⟩
theorem BlkOK.lt{M:Mem}{w:World}{b:Nat}{x:Blk}(h:BlkOK M w b x):b<w.heap.size:=by
 cases x with
 |cells l=>obtain⟨_,cs,t,hh,_⟩:=h;exact(Array.getElem?_eq_some_iff.1 hh).1
 |tail u c=>obtain⟨_,cs,t,hh,_⟩:=h;exact(Array.getElem?_eq_some_iff.1 hh).1
 |map es k=>obtain⟨_,l,hh,_⟩:=h;exact(Array.getElem?_eq_some_iff.1 hh).1
theorem Inv.lt_of{P:Program}[Glob P]{M:Mem}{w0:Base}{σ:Store}{w:World}(h:Inv P M w0 σ w){e:Nat×Nat×Blk}(he:e∈σ):e.2.1<w.heap.size:=(h.st e he).2.lt
theorem Inv.fresh{P:Program}[Glob P]{M:Mem}{w0:Base}{σ:Store}{w:World}(h:Inv P M w0 σ w):w.heap.size∉σ.map (·.2.1):=by
 intro hm
 obtain⟨e,he,h2⟩:=List.mem_map.1 hm
 have:=h.lt_of he
 omega
theorem lkt_mem:∀ {σ:Store} {t b:Nat} {x:Blk},lkt σ t=some (b,x)→(t,b,x)∈σ
 |[],t,b,x,h=>by cases h
 |(i,b',x')::r,t,b,x,h=>by
  simp only[lkt]at h
  cases hb:Nat.beq i t with
  |true=>
   rw[hb]at h
   simp only[cond_true,Option.some.injEq,Prod.mk.injEq]at h
   obtain⟨rfl,rfl⟩:=h
   rw[Nat.eq_of_beq_eq_true hb]
   exact List.mem_cons_self
  |false=>rw[hb]at h;exact List.mem_cons_of_mem _ (lkt_mem h)
def upt:Store→Nat→Nat→Blk→Store
 |[],_,_,_=>[]
 |(i,b',x')::r,t,b,x=>bif Nat.beq i t then(t,b,x)::r else(i,b',x')::upt r t b x
theorem upt_split:∀ {σ:Store} {t b:Nat} {x:Blk},lkt σ t=some (b,x)→∃ pre post,σ=pre++(t,b,x)::post∧∀ b' x',upt σ t b' x'=pre++(t,b',x')::post
 |[],t,b,x,h=>by cases h
 |(i,b0,x0)::r,t,b,x,h=>by
  simp only[lkt]at h
  cases hb:Nat.beq i t with
  |true=>
   rw[hb]at h
   simp only[cond_true,Option.some.injEq,Prod.mk.injEq]at h
   obtain⟨rfl,rfl⟩:=h
   refine⟨[],r,by rw[Nat.eq_of_beq_eq_true hb];rfl,fun b' x'=>by simp only[upt,hb,cond_true,List.nil_append]⟩
  |false=>
   rw[hb]at h
   obtain⟨pre,post,h1,h2⟩:=upt_split h
   exact⟨(i,b0,x0)::pre,post,by rw[h1];rfl,fun b' x'=>by simp only[upt,hb,cond_false,h2,List.cons_append]⟩
theorem Inv.freshM{P:Program}[Glob P]{M:Mem}{w0:Base}{σ:Store}{w:World}(h:Inv P M w0 σ w)(o:Nat):M w.heap.size o=none:=by
 cases e:M w.heap.size o with
 |none=>rfl
 |some x=>have:=World.block_lt_of_cell? _ _ (h.imm _ _ _ e);simp at this
theorem heap_alloc_lt(w:World)(o:Obj)(k:Nat)(h:k<w.heap.size):(w.alloc o).heap[k]? =w.heap[k]? :=by
 show(w.heap.push o)[k]? =_
 rw[Array.getElem?_push,if_neg (by omega)]
theorem heap_alloc_new(w:World)(o:Obj):(w.alloc o).heap[w.heap.size]? =some o:=by
 show(w.heap.push o)[w.heap.size]? =_
 rw[Array.getElem?_push,if_pos rfl]
theorem BlkOK.heap{M:Mem}{w w':World}{b:Nat}{x:Blk}(h:BlkOK M w b x)(e:w'.heap[b]? =w.heap[b]?):BlkOK M w' b x:=by
 cases x with
 |cells l=>obtain⟨a,cs,t,hh,r⟩:=h;exact⟨a,cs,t,e.trans hh,r⟩
 |tail u c=>obtain⟨a,cs,t,hh,r⟩:=h;exact⟨a,cs,t,e.trans hh,r⟩
 |map es k=>obtain⟨a,l,hh,r⟩:=h;exact⟨a,l,e.trans hh,r⟩
theorem Inv.alloc{P:Program}[Glob P]{M:Mem}{w0:Base}{σ:Store}{w:World}(h:Inv P M w0 σ w)(o:Obj):Inv P M w0 σ (w.alloc o):=by
 refine⟨h.os,h.tape,h.output,by simp;have:=h.size;omega,fun k hk=> ?_,fun b o' v hv=> ?_,fun e he=> ?_,h.nd,h.gl,h.gw,h.bm⟩
 ·rw[heap_alloc_lt _ _ _ (Nat.lt_of_lt_of_le hk h.size)];exact h.old k hk
 ·have:=h.imm b o' v hv
  rw[World.cell?_alloc_lt _ _ _ (World.block_lt_of_cell? _ _ this)];exact this
 ·exact⟨(h.st e he).1,(h.st e he).2.heap (heap_alloc_lt _ _ _ (h.lt_of he))⟩
theorem Inv.box{P:Program}[Glob P]{M:Mem}{w0:Base}{σ:Store}{w:World}(h:Inv P M w0 σ w){cs:List Value}{l:List AV}(t:TypeId)(hl:RL M l cs)(tag:Nat):
  Inv P M w0 ((tag,w.heap.size,.cells l)::σ) (w.alloc (.cells cs.toArray t)):=by
 have h':=h.alloc (.cells cs.toArray t)
 refine⟨h'.os,h'.tape,h'.output,h'.size,h'.old,h'.imm,fun e he=> ?_,?_,h'.gl,h'.gw,h'.bm⟩
 ·rcases List.mem_cons.1 he with rfl|he
  ·exact⟨h.size,h.freshM,cs.toArray,t,heap_alloc_new _ _,by simpa using hl⟩
  ·exact h'.st e he
 ·simp only[List.map_cons,List.nodup_cons]
  exact⟨h.fresh,h.nd⟩
end Go.Sx
