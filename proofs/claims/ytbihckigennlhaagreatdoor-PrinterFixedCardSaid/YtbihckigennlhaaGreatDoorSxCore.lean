/-
  The layer Sx, first part: abstract values, what they stand for in a world, the invariant of a walk. Over any program.
-/
import Derived.Orders
import Derived.WalkKit
set_option linter.unusedVariables false
set_option linter.unusedSimpArgs false
set_option linter.unusedSectionVars false
abbrev Z9:= @Nat.le_of_ble_eq_true
abbrev Z8:= @List.length_cons
abbrev Z7:= @List.length_append
abbrev Z6:= @Option.some.injEq
abbrev Z5:= @List.length_map
abbrev Z4:= @Array.getD_eq_getD_getElem?
abbrev Z3:= @Bool.and_eq_true
abbrev Z2:= @List.length_nil
abbrev Z1:= @List.getElem?_eq_getElem
abbrev Z0:= @List.size_toArray
abbrev ZY:= @List.cons.injEq
abbrev ZX:= @List.mem_cons_of_mem
abbrev ZW:= @List.length_take
abbrev ZV:= @List.getD_eq_getElem?_getD
abbrev ZU:= @List.mem_cons
abbrev ZT:= @Bool.false_eq_true
abbrev ZS:= @Option.map_eq_some_iff
abbrev ZR:= @List.mem_cons_self
abbrev ZQ:= @Array.getElem?_eq_getElem
abbrev ZP:= @List.getElem?_eq_some_iff
abbrev ZO:= @List.eq_nil_of_length_eq_zero
abbrev ZN:= @Array.all_eq_true_iff_forall_mem
abbrev ZM:= @Nat.eq_of_beq_eq_true
abbrev ZL:= @List.map_cons
abbrev ZK:= @Nat.le_refl
abbrev ZJ:= @List.all_eq_true
abbrev ZI:= @Option.getD_some
abbrev ZH:= @List.cons_append
abbrev ZG:= @decide_eq_true_eq
abbrev ZF:= @Nat.zero_le
abbrev ZE:= @Array.getElem?_setIfInBounds
abbrev ZD:= @List.take_of_length_le
abbrev ZC:= @List.mem_append_left
abbrev ZB:= @List.takeWhile_cons
abbrev ZA:= @if_false
abbrev Zz:= @Array.getElem?_eq_some_iff
abbrev Zy:= @Option.map_some
abbrev Zx:= @List.append_nil
abbrev Zv:= @List.append_assoc
abbrev Zu:= @decide_eq_false
abbrev Zt:= @List.take_succ_eq_append_getElem
abbrev Zq:= @List.length_drop
abbrev Zp:= @List.mem_append_right
abbrev Zn:= @decide_eq_true
abbrev Zm:= @List.getElem_map
abbrev Zl:= @List.mem_append
abbrev Zk:= @Bool.or_eq_true
abbrev Zj:= @Array.getElem?_setIfInBounds_ne
abbrev Zi:= @List.drop_eq_getElem_cons
abbrev Zh:= @List.nil_append
abbrev Zg:= @List.mem_range
abbrev Zf:= @List.mem_iff_getElem
abbrev Ze:= @if_true
abbrev Zd:= @Decidable.not_not
abbrev Zc:= @Option.some.inj
abbrev Zb:= @List.getElem?_append_left
abbrev Za:= @List.getElem_mem
abbrev Y9:= @List.mem_filter
abbrev Y8:= @Nat.zero_add
abbrev Y7:= @List.map_nil
abbrev Y6:= @List.length_replicate
abbrev Y5:= @Prod.mk.injEq
abbrev Y4:= @Bool.not_eq_true'
abbrev Y3:= @beq_eq_false_iff_ne
abbrev Y2:= @List.map_append
abbrev Y1:= @List.take_append_of_le_length
abbrev Y0:= @List.mem_singleton
abbrev YZ:= @List.mem_map
abbrev YX:= @Array.ext'
abbrev YW:= @List.mem_map_of_mem
abbrev YV:= @List.map_eq_nil_iff
abbrev YU:= @List.length_pos_iff
abbrev YT:= @Nat.add_zero
abbrev YS:= @Int.toNat_natCast
abbrev YR:= @Nat.blt_eq
abbrev YQ:= @Nat.add_mul
abbrev YP:= @List.drop_drop
abbrev YO:= @Nat.beq_refl
abbrev YN:= @List.getElem_cons_zero
abbrev YM:= @Array.length_toList
abbrev YL:= @List.nodup_cons
abbrev YK:= @List.cons_ne_nil
abbrev YJ:= @Nat.le_trans
abbrev YI:= @List.getElem?_append_right
abbrev YH:= @Bool.eq_iff_iff
abbrev YG:= @Nat.mul_comm
abbrev YF:= @Nat.lt_trichotomy
abbrev YE:= @Array.getElem_mem
abbrev YD:= @UInt8.toNat_inj
abbrev YC:= @Nat.succ_mul
abbrev YB:= @List.filter_eq_nil_iff
abbrev YA:= @Bool.not_eq_true
abbrev Yz:= @List.cons_prefix_cons
abbrev Yy:= @Array.getElem?_modify
abbrev Yx:= @List.getElem_append_right
abbrev Yw:= @List.mem_of_mem_tail
abbrev Yv:= @List.map_map
abbrev Yu:= @List.getElem_drop
abbrev Yt:= @List.flatten_cons
abbrev Ys:= @Option.isSome_iff_exists
abbrev Yr:= @List.take_succ_cons
abbrev Yq:= @List.perm_middle
abbrev Yp:= @List.filter_cons
abbrev Yo:= @List.drop_take
abbrev Yn:= @List.any_eq_true
abbrev Ym:= @exists_false
abbrev Yl:= @exists_const
abbrev Yk:= @List.pairwise_cons
abbrev Yj:= @List.getElem?_drop
abbrev Yi:= @List.drop_of_length_le
abbrev Yh:= @Array.any_eq_true
abbrev Yg:= @Array.getElem?_setIfInBounds_self_of_lt
abbrev Yf:= @List.range_eq_range'
abbrev Ye:= @Array.getElem?_append_left
abbrev Yd:= @List.tail_suffix
abbrev Yc:= @List.getD_cons_succ
abbrev Yb:= @List.map_take
abbrev Ya:= @List.drop_one
abbrev X9:= @cond_false
abbrev X8:= @Nat.mul_one
abbrev X7:= @List.nodup_append
abbrev X6:= @List.getElem_cons_succ
abbrev X5:= @List.getElem?_map
abbrev X4:= @Bool.not_false
abbrev X3:= @List.length_filter_le
abbrev X2:= @List.getElem?_toArray
abbrev X1:= @Array.mem_of_getElem?
namespace Go.Sx
inductive AV where
 |v (x:Value)
 |any
 |agg (xs:List AV)
 |aL (xs:List AV)
 |sl (nn:Bool) (af:Nat) (rows:List (List AV))
 |own (af t b u c:Nat) (rows:List (List AV))
 |ms (t b o n c:Nat)
 |pc (l:List AV)
 |gp (t:TypeId) (x:AV)
 |lp (t b o:Nat)
 |dY (t b:Nat)
 |ai (k:IntKind)
 |cl (f:FuncId) (a c:List AV)
 |fl (af:Nat) (rows:List (List AV))
deriving Inhabited
abbrev Mem:=Nat→Nat→Option Value
def Mem.le(M M':Mem):Prop:=∀ b o v,M b o=some v→M' b o=some v
theorem Mem.le.refl(M:Mem):M.le M:=fun _ _ _ h=>h
theorem Mem.le.trans{A B C:Mem}(h:A.le B)(k:B.le C):A.le C:=fun b o v x=>k b o v (h b o v x)
inductive R(M:Mem):AV→Value→Prop
 |v (x:Value):R M (.v x) x
 |any (x:Value):R M .any x
 |agg (xs:List AV) (cs:List Value) (hl:xs.length=cs.length) (h:∀ i (h1:i<xs.length) (h2:i<cs.length),R M xs[i] cs[i]):R M (.agg xs) (.agg cs.toArray)
 |aL (xs:List AV) (cs:List Value) (hl:xs.length=cs.length) (h:∀ i (h1:i<xs.length) (h2:i<cs.length),R M xs[i] cs[i]):R M (.aL xs) (.tuple cs.toArray)
 |nil (nn:Bool) (af:Nat) (a:Option Addr) (h:nn=true→a.isSome=true):R M (.sl nn af []) (.slice a 0 0)
 |sl (nn:Bool) (af:Nat) (rows:List (List AV)) (b off cap:Nat) (cs:Nat→Value) (aT:∀ i (h:i<rows.length),rows[i].length=af)
   (hM:∀ k,k<rows.length * af→M b (off+k)=some (cs k))
   (hR:∀ i (h:i<rows.length) j (h2:j<rows[i].length),R M rows[i][j] (cs (i * af+j)))
   (hc:rows.length≤cap) (hm:cap≤maxLen):R M (.sl nn af rows) (.slice (some ⟨b,off,none⟩) rows.length cap)
 |ms (t b o n c:Nat):R M (.ms t b o n c) (.slice (some ⟨b,o,none⟩) n c)
 |own (af t b u c:Nat) (rows:List (List AV)) (off cap:Nat) (cs:Nat→Value) (aT:∀ i (h:i<rows.length),rows[i].length=af)
   (hM:∀ k,k<rows.length * af→M b (off+k)=some (cs k))
   (hR:∀ i (h:i<rows.length) j (h2:j<rows[i].length),R M rows[i][j] (cs (i * af+j)))
   (hc:rows.length≤cap) (hm:cap≤maxLen) (hu:cap=0∨(off+rows.length * af=u∧off+cap * af≤c)) (he:0<af):R M (.own af t b u c rows) (.slice (some ⟨b,off,none⟩) rows.length cap)
 |pc (l:List AV) (b off:Nat) (cs:Nat→Value) (hM:∀ k,k<l.length→M b (off+k)=some (cs k))
   (hR:∀ k (h:k<l.length),R M l[k] (cs k)):R M (.pc l) (.pointer (some ⟨b,off,none⟩))
 |gp (t:TypeId) (x:AV) (v:Value) (h:R M x v):R M (.gp t x) (.iface t v)
 |lp (t b o:Nat):R M (.lp t b o) (.pointer (some ⟨b,o,none⟩))
 |dY (t b:Nat):R M (.dY t b) (.map (some b))
 |ai (k:IntKind) (n:Int):R M (.ai k) (.int k n)
 |cl (f:FuncId) (a c:List AV) (va vc:List Value) (hl:a.length=va.length) (fF:c.length=vc.length) (h:∀ i (h1:i<a.length) (h2:i<va.length),R M a[i] va[i])
   (h':∀ i (h1:i<c.length) (h2:i<vc.length),R M c[i] vc[i]):R M (.cl f a c) (.func (.func f) va.toArray vc.toArray)
 |fl (af:Nat) (rows:List (List AV)) (b off:Nat) (cs:Nat→Value) (aT:∀ i (h:i<rows.length),rows[i].length=af)
   (hM:∀ k,k<rows.length * af→M b (off+k)=some (cs k))
   (hR:∀ i (h:i<rows.length) j (h2:j<rows[i].length),R M rows[i][j] (cs (i * af+j)))
   (hm:rows.length≤maxLen):R M (.fl af rows) (.slice (some ⟨b,off,none⟩) rows.length rows.length)
theorem R.mono{M M':Mem}(hM:M.le M'){x:AV}{v:Value}(h:R M x v):R M' x v:=by
 induction h with
 |v x=>exact .v x
 |any x=>exact .any x
 |agg xs cs hl _ ih=>exact .agg xs cs hl ih
 |aL xs cs hl _ ih=>exact .aL xs cs hl ih
 |nil nn af a h=>exact .nil nn af a h
 |sl nn af rows b off cap cs aT hm _ hc hx ih=>exact .sl nn af rows b off cap cs aT (fun k hk=>hM _ _ _ (hm k hk)) ih hc hx
 |ms t b o n c=>exact .ms t b o n c
 |own af t b u c rows off cap cs aT hm _ hc hx hu he ih=>exact .own af t b u c rows off cap cs aT (fun k hk=>hM _ _ _ (hm k hk)) ih hc hx hu he
 |pc l b off cs hm _ ih=>exact .pc l b off cs (fun k hk=>hM _ _ _ (hm k hk)) ih
 |gp t x v _ ih=>exact .gp t x v ih
 |lp t b o=>exact .lp t b o
 |dY t b=>exact .dY t b
 |ai k n=>exact .ai k n
 |cl f a c va vc hl fF _ _ ih iU=>exact .cl f a c va vc hl fF ih iU
 |fl af rows b off cs aT hm _ hx ih=>exact .fl af rows b off cs aT (fun k hk=>hM _ _ _ (hm k hk)) ih hx
def RL(M:Mem)(xs:List AV)(cs:List Value):Prop:=xs.length=cs.length∧∀ i (h1:i<xs.length) (h2:i<cs.length),R M xs[i] cs[i]
theorem RL.mono{M M':Mem}(hM:M.le M'){xs:List AV}{cs:List Value}(h:RL M xs cs):RL M' xs cs:=⟨h.1,fun i a b=>(h.2 i a b).mono hM⟩
theorem RL.nil{M:Mem}:RL M [] []:=⟨rfl,fun i h=>absurd h (by simp)⟩
theorem RL.cons{M:Mem}{x:AV}{v:Value}{xs:List AV}{cs:List Value}(h:R M x v)(t:RL M xs cs):RL M (x::xs) (v::cs):=by
 refine⟨by simp[t.1],fun i h1 h2=> ?_⟩
 cases i with
 |zero=>exact h
 |succ i=>simpa using t.2 i (by simpa using h1) (by simpa using h2)
theorem RL.cE{M:Mem}{x:AV}{xs:List AV}{cs:List Value}(h:RL M (x::xs) cs):∃ v cs',cs=v::cs'∧R M x v∧RL M xs cs':=by
 obtain⟨hl,hr⟩:=h
 cases cs with
 |nil=>simp at hl
 |cons v cs'=>
  exact⟨v,cs',rfl,hr 0 (by simp) (by simp),by simpa using hl,fun i h1 h2=>hr (i+1) (by simpa using h1) (by simpa using h2)⟩
theorem RL.sD{M:Mem}{cs:List Value}(h:RL M [] cs):cs=[]:=by
 have:=h.1;simp at this;exact ZO this.symm
theorem RL.append{M:Mem}{xs ys:List AV}{cs ds:List Value}(h:RL M xs cs)(k:RL M ys ds):RL M (xs++ys) (cs++ds):=by
 induction xs generalizing cs with
 |nil=>obtain rfl:=h.sD;simpa using k
 |cons x xs ih=>obtain⟨v,cs',rfl,a,b⟩:=h.cE;exact RL.cons a (ih b)
theorem RL.get{M:Mem}{xs:List AV}{cs:List Value}(h:RL M xs cs){i:Nat}{x:AV}(hx:xs[i]? =some x):∃ v,cs[i]? =some v∧R M x v:=by
 obtain⟨hi,rfl⟩:=ZP.1 hx
 have h2:i<cs.length:=h.1 ▸ hi
 exact⟨cs[i],Z1 h2,h.2 i hi h2⟩
theorem RL.drop{M:Mem}{xs:List AV}{cs:List Value}(h:RL M xs cs)(n:Nat):RL M (xs.drop n) (cs.drop n):=by
 refine⟨by simp[h.1],fun i h1 h2=> ?_⟩
 simp only[Yu]
 exact h.2 _ _ _
theorem RL.take{M:Mem}{xs:List AV}{cs:List Value}(h:RL M xs cs)(n:Nat):RL M (xs.take n) (cs.take n):=by
 refine⟨by simp[h.1],fun i h1 h2=> ?_⟩
 simp only[List.getElem_take]
 exact h.2 _ _ _
theorem RL.set{M:Mem}{xs:List AV}{cs:List Value}(h:RL M xs cs)(n:Nat){x:AV}{v:Value}(hx:R M x v):RL M (xs.set n x) (cs.set n v):=by
 refine⟨by simp[h.1],fun i h1 h2=> ?_⟩
 simp only[List.getElem_set]
 split
 ·exact hx
 ·exact h.2 _ _ _
theorem RL.exact{M:Mem}(cs:List Value):RL M (cs.map .v) cs:=⟨by simp,fun i h1 h2=>by simpa using R.v _⟩
theorem R.uO{M:Mem}{xs:List AV}{v:Value}(h:R M (.agg xs) v):∃ cs,v= .agg cs.toArray∧RL M xs cs:=by
 cases h with
 |agg _ cs hl hr=>exact⟨cs,rfl,hl,hr⟩
theorem R.uL{M:Mem}{xs:List AV}{cs:List Value}(h:RL M xs cs):R M (.agg xs) (.agg cs.toArray):= .agg xs cs h.1 h.2
theorem R.Ag{M:Mem}{xs:List AV}{v:Value}(h:R M (.aL xs) v):∃ cs,v= .tuple cs.toArray∧RL M xs cs:=by
 cases h with
 |aL _ cs hl hr=>exact⟨cs,rfl,hl,hr⟩
theorem R.D0{M:Mem}{xs:List AV}{cs:List Value}(h:RL M xs cs):R M (.aL xs) (.tuple cs.toArray):= .aL xs cs h.1 h.2
theorem R.ax{M:Mem}{x v:Value}(h:R M (.v x) v):v=x:=by cases h;rfl
theorem R.nw{M:Mem}{l:List AV}{v:Value}(h:R M (.pc l) v):∃ b off,∃ cs:Nat→Value,v= .pointer (some ⟨b,off,none⟩)∧(∀ k,k<l.length→M b (off+k)=some (cs k))∧∀ k (h:k<l.length),R M l[k] (cs k):=by
 cases h with
 |pc _ b off cs h1 h2=>exact⟨b,off,cs,rfl,h1,h2⟩
structure Rows(M:Mem)(b off af:Nat)(rows:List (List AV))(cs:Nat→Value):Prop where
 size:∀ i (h:i<rows.length),rows[i].length=af
 mem:∀ k,k<rows.length * af→M b (off+k)=some (cs k)
 rel:∀ i (h:i<rows.length) j (h2:j<rows[i].length),R M rows[i][j] (cs (i * af+j))
theorem R.oE{M:Mem}{nn:Bool}{af:Nat}{rows:List (List AV)}{v:Value}(h:R M (.sl nn af rows) v):(∃ a:Option Addr,(nn=true→a.isSome=true)∧rows=[]∧v= .slice a 0 0)∨
  ∃ b off cap cs,v= .slice (some ⟨b,off,none⟩) rows.length cap∧Rows M b off af rows cs∧rows.length≤cap∧cap≤maxLen:=by
 cases h with
 |nil _ _ a h=>exact .inl ⟨a,h,rfl,rfl⟩
 |sl _ _ _ b off cap cs h1 h2 h3 h4 h5=>exact .inr ⟨b,off,cap,cs,rfl,⟨h1,h2,h3⟩,h4,h5⟩
theorem R.kJ{M:Mem}{b off cap af:Nat}{cs:Nat→Value}{rows:List (List AV)}(h:Rows M b off af rows cs)(h4:rows.length≤cap)(h5:cap≤maxLen)(nn:Bool):R M (.sl nn af rows) (.slice (some ⟨b,off,none⟩) rows.length cap):=
 .sl nn af rows b off cap cs h.size h.mem h.rel h4 h5
theorem R.xD{M:Mem}{t b o n c:Nat}{v:Value}(h:R M (.ms t b o n c) v):v= .slice (some ⟨b,o,none⟩) n c:=by cases h;rfl
theorem R.pZ{M:Mem}{af t b u c:Nat}{rows:List (List AV)}{v:Value}(h:R M (.own af t b u c rows) v):
  ∃ off cap cs,v= .slice (some ⟨b,off,none⟩) rows.length cap∧Rows M b off af rows cs∧rows.length≤cap∧cap≤maxLen∧(cap=0∨(off+rows.length * af=u∧off+cap * af≤c))∧0<af:=by
 cases h with
 |own _ _ _ _ _ _ off cap cs h1 h2 h3 h4 h5 h6 h8=>exact⟨off,cap,cs,rfl,⟨h1,h2,h3⟩,h4,h5,h6,h8⟩
theorem R.oD{M:Mem}{t b u c off cap af:Nat}{cs:Nat→Value}{rows:List (List AV)}(h:Rows M b off af rows cs)(h4:rows.length≤cap)(h5:cap≤maxLen)(h6:cap=0∨(off+rows.length * af=u∧off+cap * af≤c))(h8:0<af):
  R M (.own af t b u c rows) (.slice (some ⟨b,off,none⟩) rows.length cap):= .own af t b u c rows off cap cs h.size h.mem h.rel h4 h5 h6 h8
theorem R.aba{M:Mem}{af t b u c:Nat}{rows:List (List AV)}{v:Value}(h:R M (.own af t b u c rows) v)(nn:Bool):R M (.sl nn af rows) v:=by
 obtain⟨off,cap,cs,rfl,hr,h4,h5,_⟩:=h.pZ
 exact R.kJ hr h4 h5 nn
theorem R.La{M:Mem}{af:Nat}{rows:List (List AV)}{v:Value}(h:R M (.fl af rows) v):∃ b off cs,v= .slice (some ⟨b,off,none⟩) rows.length rows.length∧Rows M b off af rows cs∧rows.length≤maxLen:=by
 cases h with
 |fl _ _ b off cs h1 h2 h3 h4=>exact⟨b,off,cs,rfl,⟨h1,h2,h3⟩,h4⟩
theorem R.aaF{M:Mem}{b off af:Nat}{cs:Nat→Value}{rows:List (List AV)}(h:Rows M b off af rows cs)(h5:rows.length≤maxLen):R M (.fl af rows) (.slice (some ⟨b,off,none⟩) rows.length rows.length):=
 .fl af rows b off cs h.size h.mem h.rel h5
theorem R.TK{M:Mem}{af:Nat}{rows:List (List AV)}{v:Value}(h:R M (.fl af rows) v)(nn:Bool):R M (.sl nn af rows) v:=by
 obtain⟨b,off,cs,rfl,hr,h5⟩:=h.La
 exact R.kJ hr (ZK _) h5 nn
theorem R.asa{M:Mem}{af:Nat}{rows:List (List AV)}{v:Value}(h:R M (.sl true af rows) v):R M (.sl false af rows) v:=by
 rcases h.oE with⟨a,_,rfl,rfl⟩|⟨b,off,cap,cs,rfl,hr,h4,h5⟩
 ·exact .nil _ _ _ (fun h=>nomatch h)
 ·exact R.kJ hr h4 h5 _
theorem R.lX{M:Mem}{t b o:Nat}{v:Value}(h:R M (.lp t b o) v):v= .pointer (some ⟨b,o,none⟩):=by cases h;rfl
theorem R.xC{M:Mem}{t b:Nat}{v:Value}(h:R M (.dY t b) v):v= .map (some b):=by cases h;rfl
theorem R.aaZ{M:Mem}{k:IntKind}{v:Value}(h:R M (.ai k) v):∃ n,v= .int k n:=by cases h with|ai _ n=>exact⟨n,rfl⟩
theorem R.K9{M:Mem}{f:FuncId}{a c:List AV}{v:Value}(h:R M (.cl f a c) v):∃ va vc:List Value,v= .func (.func f) va.toArray vc.toArray∧RL M a va∧RL M c vc:=by
 cases h with
 |cl _ _ _ va vc hl fF h h'=>exact⟨va,vc,rfl,⟨hl,h⟩,⟨fF,h'⟩⟩
theorem R.aaE{M:Mem}{f:FuncId}{a c:List AV}{va vc:List Value}(h:RL M a va)(h':RL M c vc):R M (.cl f a c) (.func (.func f) va.toArray vc.toArray):= .cl f a c va vc h.1 h'.1 h.2 h'.2
theorem R.Lb{M:Mem}{t:TypeId}{x:AV}{v:Value}(h:R M (.gp t x) v):∃ u,v= .iface t u∧R M x u:=by
 cases h with
 |gp _ _ u h=>exact⟨u,rfl,h⟩
theorem aaH{i n af j:Nat}(hi:i<n)(hj:j<af):i * af+j<n * af:=by
 have:(i+1) * af≤n * af:=Nat.mul_le_mul_right _ hi
 rw[YC]at this
 omega
theorem Rows.mono{M M':Mem}(hM:M.le M'){b off af:Nat}{rows:List (List AV)}{cs:Nat→Value}(h:Rows M b off af rows cs):Rows M' b off af rows cs:=
 ⟨h.size,fun k hk=>hM _ _ _ (h.mem k hk),fun i hi j hj=>(h.rel i hi j hj).mono hM⟩
theorem Rows.sub{M:Mem}{b off af:Nat}{rows:List (List AV)}{cs:Nat→Value}(h:Rows M b off af rows cs)(lo hi:Nat)(hh:hi≤rows.length)(hl:lo≤hi):
  Rows M b (off+lo * af) af ((rows.take hi).drop lo) (fun k=>cs (lo * af+k)):=by
 have hlen:((rows.take hi).drop lo).length=hi-lo:=by simp;omega
 refine⟨fun i h1=> ?_,fun k hk=> ?_,fun i h1 j h2=> ?_⟩
 ·simp only[Yu,List.getElem_take]
  exact h.size _ _
 ·rw[hlen]at hk
  have hb:lo * af+k<rows.length * af:=by
   have h1:(hi-lo) * af+lo * af=hi * af:=by rw[← YQ];congr 1;omega
   have h2:hi * af≤rows.length * af:=Nat.mul_le_mul_right _ hh
   omega
  rw[Nat.add_assoc]
  exact h.mem _ hb
 ·have h3:lo+i<rows.length:=by rw[hlen]at h1;omega
  have e:((rows.take hi).drop lo)[i]=rows[lo+i]:=by simp
  have hj:j<rows[lo+i].length:=by rw[← e];exact h2
  have:=h.rel (lo+i) h3 j hj
  have e2:((rows.take hi).drop lo)[i][j]=rows[lo+i][j]:=by simp
  rw[e2]
  have e3:lo * af+(i * af+j)=(lo+i) * af+j:=by rw[YQ];omega
  rw[e3]
  exact this
theorem Rows.pc{M:Mem}{b off af:Nat}{rows:List (List AV)}{cs:Nat→Value}(h:Rows M b off af rows cs)(i:Nat)(hi:i<rows.length):
  R M (.pc (rows.getD i [])) (.pointer (some ⟨b,off+i * af,none⟩)):=by
 have e:rows.getD i []=rows[i]:=by simp[hi]
 rw[e]
 refine .pc _ b _ (fun k=>cs (i * af+k)) (fun k hk=> ?_) (fun k hk=>h.rel i hi k hk)
 rw[h.size i hi]at hk
 rw[Nat.add_assoc]
 exact h.mem _ (aaH hi hk)
def AV.cells? :AV→Option (List AV)
 | .v (.agg cs)=>some (cs.toList.map .v)
 | .v (.tuple _)=>none
 | .agg xs=>some xs
 | .any=>none
 | .aL _=>none
 |x=>some [x]
def AV.lq :AV→Option (List AV)
 | .v (.agg cs)=>some (cs.toList.map .v)
 | .agg xs=>some xs
 |_=>none
theorem R.BK{M:Mem}{x:AV}{v:Value}{l:List AV}(h:R M x v)(hl:x.lq =some l):∃ cs,v= .agg cs∧RL M l cs.toList:=by
 cases h with
 |v=>
  cases v with
  |agg cs=>simp[AV.lq]at hl;subst hl;exact⟨cs,rfl,RL.exact _⟩
  |_=>simp[AV.lq]at hl
 |agg xs cs fF hr=>simp[AV.lq]at hl;subst hl;exact⟨cs.toArray,rfl,fF,hr⟩
 |_=>simp[AV.lq]at hl
def AV.one:AV→Bool
 | .v x=>x.oneCell'
 | .any| .agg _| .aL _=>false
 |_=>true
theorem R.cells{M:Mem}{x:AV}{v:Value}{l:List AV}(h:R M x v)(hl:x.cells? =some l):RL M l v.cells.toList:=by
 cases h with
 |v=>
  cases v with
  |agg cs=>simp[AV.cells?]at hl;subst hl;exact RL.exact _
  |tuple _=>simp[AV.cells?]at hl
  |_=>simp only[AV.cells?,Z6]at hl;subst hl;exact RL.cons (.v _) RL.nil
 |any=>simp[AV.cells?]at hl
 |agg xs cs fF hr=>simp[AV.cells?]at hl;subst hl;exact⟨fF,hr⟩
 |aL=>simp[AV.cells?]at hl
 |nil nn af a h=>simp only[AV.cells?,Z6]at hl;subst hl;exact RL.cons (.nil nn af a h) RL.nil
 |sl nn af rows b off cap cs a1 a2 a3 a4 a5=>simp only[AV.cells?,Z6]at hl;subst hl;exact RL.cons (.sl nn af rows b off cap cs a1 a2 a3 a4 a5) RL.nil
 |ms t b o n c=>simp only[AV.cells?,Z6]at hl;subst hl;exact RL.cons (.ms t b o n c) RL.nil
 |own af t b u c rows off cap cs a1 a2 a3 a4 a5 a6 a8=>simp only[AV.cells?,Z6]at hl;subst hl;exact RL.cons (.own af t b u c rows off cap cs a1 a2 a3 a4 a5 a6 a8) RL.nil
 |pc l b off cs a1 a2=>simp only[AV.cells?,Z6]at hl;subst hl;exact RL.cons (.pc l b off cs a1 a2) RL.nil
 |gp t x v a=>simp only[AV.cells?,Z6]at hl;subst hl;exact RL.cons (.gp t x v a) RL.nil
 |lp t b o=>simp only[AV.cells?,Z6]at hl;subst hl;exact RL.cons (.lp t b o) RL.nil
 |dY t b=>simp only[AV.cells?,Z6]at hl;subst hl;exact RL.cons (.dY t b) RL.nil
 |ai k n=>simp only[AV.cells?,Z6]at hl;subst hl;exact RL.cons (.ai k n) RL.nil
 |cl f a c va vc a1 a2 a3 a4=>simp only[AV.cells?,Z6]at hl;subst hl;exact RL.cons (.cl f a c va vc a1 a2 a3 a4) RL.nil
 |fl af rows b off cs a1 a2 a3 a4=>simp only[AV.cells?,Z6]at hl;subst hl;exact RL.cons (.fl af rows b off cs a1 a2 a3 a4) RL.nil
theorem R.one{M:Mem}{x:AV}{v:Value}(h:R M x v)(hl:x.one=true):v.oneCell'=true:=by
 cases h<;>simp_all [AV.one,Value.oneCell']
inductive cp where
 |cells (l:List AV)
 |tail (u c:Nat)
 |map (es:List (Value×Nat×AV)) (k:Nat)
deriving Inhabited
abbrev ae:=List (Nat×AV)
abbrev Store:=List (Nat×Nat×cp)
def lk:ae→Nat→AV
 |[],_=> .any
 |(i,x)::r,j=>bif Nat.beq i j then x else lk r j
def aK:Store→Nat→Option (Nat×cp)
 |[],_=>none
 |(i,b,x)::r,j=>bif Nat.beq i j then some (b,x)else aK r j
def BlkOK(M:Mem)(w:World)(b:Nat):cp→Prop
 | .cells l=>(∀ o,M b o=none)∧∃ cs t,w.heap[b]? =some (.cells cs t (0,0))∧RL M l cs.toList
 | .tail u c=>(∀ o,u≤o→M b o=none)∧∃ cs t,w.heap[b]? =some (.cells cs t (0,0))∧cs.size=c∧u≤c
 | .map es k=>(∀ o,M b o=none)∧∃ l:List MapEntry,w.heap[b]? =some (.map l.toArray k)∧l.map (fun e=>(e.key,e.born))=es.map (fun e=>(e.1,e.2.1))∧RL M (es.map (·.2.2)) (l.map (·.val))
class Glob (P:Program) where
 av:Nat→Option (List AV)
 gw:World→Prop
 df:List Deferred:=[]
instance (priority:=low) Glob.empty (P:Program):Glob P:=⟨fun _=>none,fun _=>True,[]⟩
class jh (P:Program) [Glob P]:Prop where
 h:Glob.df P=[]
instance (priority:=low) jh.empty (P:Program): @jh P (Glob.empty P):= @jh.mk P (Glob.empty P) rfl
structure Base extends World where
 bm:Mem
instance:Coe Base World:=⟨Base.toWorld⟩
structure Inv(P:Program)[Glob P](M:Mem)(w0:Base)(σ:Store)(w:World):Prop where
 os:w.os=w0.os
 tape:w.tape=w0.tape
 output:w.output=w0.output
 size:w0.heap.size≤w.heap.size
 old:∀ k,k<w0.heap.size→w.heap[k]? =w0.heap[k]?
 dr:∀ b o v,M b o=some v→w.cell? ⟨b,o,none⟩=some v
 st:∀ e∈σ,w0.heap.size≤e.2.1∧BlkOK M w e.2.1 e.2.2
 nd:(σ.map (·.2.1)).Nodup
 gl:∀ g l,Glob.av P g=some l→R M (.pc l) (.pointer (some ⟨g,0,none⟩))
 gw:Glob.gw P w0
 bm:∀ b o v,M b o=some v→b<w0.heap.size→w0.bm b o=some v
def bB(M:Mem)(rg:ae)(a:Act):Prop:=∀ i,R M (lk rg i) (a.tmps.getD i undef)
theorem bB.mono{M M':Mem}(hM:M.le M'){rg:ae}{a:Act}(h:bB M rg a):bB M' rg a:=fun i=>(h i).mono hM
def ev(rg:ae):Operand→AV
 | .tmp t=>lk rg t
 | .const v=> .v v
 | .global g=> .v (.pointer (some ⟨g,0,none⟩))
 | .func f=> .v (.func (.func f) #[] #[])
theorem bB.ev{M:Mem}{rg:ae}{a:Act}(h:bB M rg a)(x:Operand):R M (ev rg x) (a.eval x):=by
 cases x with
 |tmp t=>exact h t
 |const v=>exact .v v
 |global g=>exact .v _
 |func f=>exact .v _
def bM(d:Option Nat)(x:AV)(rg:ae):ae:=match d with|some d=>(d,x)::rg|none=>rg
theorem bB.put{M:Mem}{rg:ae}{a:Act}(h:bB M rg a)(d:Option Nat){x:AV}{v:Value}(hd:∀ t,d=some t→t<a.tmps.size)(hx:R M x v):bB M (bM d x rg) (a.put d v):=by
 cases d with
 |none=>exact h
 |some d=>
  intro i
  simp only[bM,lk,Act.put]
  by_cases e:d=i
  ·subst e
   have:=hd d rfl
   simp[YO,this]
   exact hx
  ·have hb:Nat.beq d i=false:=by rw[← YA,Nat.beq_eq];exact e
   have:(a.tmps.setIfInBounds d v).getD i undef=a.tmps.getD i undef:=by
    simp[Zj e]
   rw[hb,this]
   exact h i
theorem Act.size_put(a:Act)(d:Option Nat)(v:Value):(a.put d v).tmps.size=a.tmps.size:=by cases d<;>simp[Act.put]
theorem Act.v8(a:Act)(d:Option Nat)(v:Value):(a.put d v).defers=a.defers:=by cases d<;>simp[Act.put]
def eC:List Nat→ae→ae
 |[],_=>[]
 |i::l,rg=>(i,lk rg i)::eC l rg
theorem bB.eC{M:Mem}{rg:ae}{a:Act}(h:bB M rg a)(l:List Nat):bB M (eC l rg) a:=by
 induction l with
 |nil=>exact fun i=> .any _
 |cons t l ih=>
  intro i
  simp only[Sx.eC,lk]
  cases hb:Nat.beq t i with
  |true=>rw[ZM hb];exact h i
  |false=>exact ih i
theorem Inv.drew{P:Program}[Glob P]{M:Mem}{w0:Base}{σ:Store}{w:World}(h:Inv P M w0 σ w)(n:Nat):Inv P M w0 σ {w with drawn:=n}:=
 ⟨h.os,h.tape,h.output,h.size,h.old,h.dr,h.st,h.nd,h.gl,h.gw,h.bm⟩
theorem BlkOK.lt{M:Mem}{w:World}{b:Nat}{x:cp}(h:BlkOK M w b x):b<w.heap.size:=by
 cases x with
 |cells l=>obtain⟨_,cs,t,hh,_⟩:=h;exact(Zz.1 hh).1
 |tail u c=>obtain⟨_,cs,t,hh,_⟩:=h;exact(Zz.1 hh).1
 |map es k=>obtain⟨_,l,hh,_⟩:=h;exact(Zz.1 hh).1
theorem Inv.z8{P:Program}[Glob P]{M:Mem}{w0:Base}{σ:Store}{w:World}(h:Inv P M w0 σ w){e:Nat×Nat×cp}(he:e∈σ):e.2.1<w.heap.size:=(h.st e he).2.lt
theorem Inv.fresh{P:Program}[Glob P]{M:Mem}{w0:Base}{σ:Store}{w:World}(h:Inv P M w0 σ w):w.heap.size∉σ.map (·.2.1):=by
 intro hm
 obtain⟨e,he,h2⟩:=YZ.1 hm
 have:=h.z8 he
 omega
theorem pV:∀ {σ:Store} {t b:Nat} {x:cp},aK σ t=some (b,x)→(t,b,x)∈σ
 |[],t,b,x,h=>by cases h
 |(i,b',x')::r,t,b,x,h=>by
  simp only[aK]at h
  cases hb:Nat.beq i t with
  |true=>
   rw[hb]at h
   simp only[cond_true,Z6,Y5]at h
   obtain⟨rfl,rfl⟩:=h
   rw[ZM hb]
   exact ZR
  |false=>rw[hb]at h;exact ZX _ (pV h)
def ck:Store→Nat→Nat→cp→Store
 |[],_,_,_=>[]
 |(i,b',x')::r,t,b,x=>bif Nat.beq i t then(t,b,x)::r else(i,b',x')::ck r t b x
theorem qq:∀ {σ:Store} {t b:Nat} {x:cp},aK σ t=some (b,x)→∃ pre post,σ=pre++(t,b,x)::post∧∀ b' x',ck σ t b' x'=pre++(t,b',x')::post
 |[],t,b,x,h=>by cases h
 |(i,b0,x0)::r,t,b,x,h=>by
  simp only[aK]at h
  cases hb:Nat.beq i t with
  |true=>
   rw[hb]at h
   simp only[cond_true,Z6,Y5]at h
   obtain⟨rfl,rfl⟩:=h
   refine⟨[],r,by rw[ZM hb];rfl,fun b' x'=>by simp only[ck,hb,cond_true,Zh]⟩
  |false=>
   rw[hb]at h
   obtain⟨pre,post,h1,h2⟩:=qq h
   exact⟨(i,b0,x0)::pre,post,by rw[h1];rfl,fun b' x'=>by simp only[ck,hb,X9,h2,ZH]⟩
theorem Inv.Cr{P:Program}[Glob P]{M:Mem}{w0:Base}{σ:Store}{w:World}(h:Inv P M w0 σ w)(o:Nat):M w.heap.size o=none:=by
 cases e:M w.heap.size o with
 |none=>rfl
 |some x=>have:=World.block_lt_of_cell? _ _ (h.dr _ _ _ e);simp at this
theorem C1(w:World)(o:Obj)(k:Nat)(h:k<w.heap.size):(w.alloc o).heap[k]? =w.heap[k]? :=by
 show(w.heap.push o)[k]? =_
 rw[Array.getElem?_push,if_neg (by omega)]
theorem heap_alloc_new(w:World)(o:Obj):(w.alloc o).heap[w.heap.size]? =some o:=by
 show(w.heap.push o)[w.heap.size]? =_
 rw[Array.getElem?_push,if_pos rfl]
theorem BlkOK.heap{M:Mem}{w w':World}{b:Nat}{x:cp}(h:BlkOK M w b x)(e:w'.heap[b]? =w.heap[b]?):BlkOK M w' b x:=by
 cases x with
 |cells l=>obtain⟨a,cs,t,hh,r⟩:=h;exact⟨a,cs,t,e.trans hh,r⟩
 |tail u c=>obtain⟨a,cs,t,hh,r⟩:=h;exact⟨a,cs,t,e.trans hh,r⟩
 |map es k=>obtain⟨a,l,hh,r⟩:=h;exact⟨a,l,e.trans hh,r⟩
theorem Inv.alloc{P:Program}[Glob P]{M:Mem}{w0:Base}{σ:Store}{w:World}(h:Inv P M w0 σ w)(o:Obj):Inv P M w0 σ (w.alloc o):=by
 refine⟨h.os,h.tape,h.output,by simp;have:=h.size;omega,fun k hk=> ?_,fun b o' v hv=> ?_,fun e he=> ?_,h.nd,h.gl,h.gw,h.bm⟩
 ·rw[C1 _ _ _ (Nat.lt_of_lt_of_le hk h.size)];exact h.old k hk
 ·have:=h.dr b o' v hv
  rw[World.cell?_alloc_lt _ _ _ (World.block_lt_of_cell? _ _ this)];exact this
 ·exact⟨(h.st e he).1,(h.st e he).2.heap (C1 _ _ _ (h.z8 he))⟩
theorem Inv.box{P:Program}[Glob P]{M:Mem}{w0:Base}{σ:Store}{w:World}(h:Inv P M w0 σ w){cs:List Value}{l:List AV}(t:TypeId)(hl:RL M l cs)(tag:Nat):
  Inv P M w0 ((tag,w.heap.size,.cells l)::σ) (w.alloc (.cells cs.toArray t)):=by
 have h':=h.alloc (.cells cs.toArray t)
 refine⟨h'.os,h'.tape,h'.output,h'.size,h'.old,h'.dr,fun e he=> ?_,?_,h'.gl,h'.gw,h'.bm⟩
 ·rcases ZU.1 he with rfl|he
  ·exact⟨h.size,h.Cr,cs.toArray,t,heap_alloc_new _ _,by simpa using hl⟩
  ·exact h'.st e he
 ·simp only[ZL,YL]
  exact⟨h.fresh,h.nd⟩
end Go.Sx
