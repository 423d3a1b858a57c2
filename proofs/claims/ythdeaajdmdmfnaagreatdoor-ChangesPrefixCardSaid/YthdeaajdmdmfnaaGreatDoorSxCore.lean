/-
  The layer Sx, first part: abstract values, what they stand for in a world, the invariant of a walk. Over any program.
-/
import Derived.Orders
import Derived.WalkKit
set_option linter.unusedVariables false
set_option linter.unusedSimpArgs false
set_option linter.unusedSectionVars false
abbrev Z9:= @Option.map_eq_some_iff
abbrev Z8:= @Bool.and_eq_true
abbrev Z7:= @if_neg
abbrev Z6:= @Array.getElem?_eq_some_iff
abbrev Z5:= @List.setIfInBounds_toArray
abbrev Z4:= @List.length_append
abbrev Z3:= @List.getD_eq_getElem?_getD
abbrev Z2:= @List.cons.injEq
abbrev Z1:= @List.getElem?_eq_getElem
abbrev Z0:= @Nat.eq_of_beq_eq_true
abbrev ZY:= @Option.some.injEq
abbrev ZX:= @Nat.le_refl
abbrev ZW:= @List.length_map
abbrev ZV:= @if_pos
abbrev ZU:= @Bool.false_eq_true
abbrev ZT:= @Array.getD_eq_getD_getElem?
abbrev ZS:= @List.length_cons
abbrev ZR:= @decide_eq_true_eq
abbrev ZQ:= @Array.length_toList
abbrev ZP:= @List.set_cons_zero
abbrev ZO:= @List.set_cons_succ
abbrev ZN:= @Array.getElem?_eq_getElem
abbrev ZM:= @Nat.zero_le
abbrev ZL:= @List.mem_cons_of_mem
abbrev ZK:= @List.mem_cons
abbrev ZJ:= @Option.map_some
abbrev ZI:= @Nat.le_trans
abbrev ZH:= @Nat.zero_add
abbrev ZG:= @List.cons_append
abbrev ZF:= @Nat.le_of_ble_eq_true
abbrev ZE:= @List.getElem?_eq_some_iff
abbrev ZD:= @List.mem_cons_self
abbrev ZC:= @List.take_succ_eq_append_getElem
abbrev ZB:= @Array.all_eq_true_iff_forall_mem
abbrev ZA:= @List.length_nil
abbrev Zz:= @List.all_eq_true
abbrev Zy:= @List.mem_append
abbrev Zx:= @List.length_take
abbrev Zv:= @List.map_cons
abbrev Zu:= @List.getElem_map
abbrev Zt:= @List.eq_nil_of_length_eq_zero
abbrev Zq:= @List.take_of_length_le
abbrev Zp:= @Option.getD_some
abbrev Zn:= @and_true
abbrev Zm:= @List.mem_append_left
abbrev Zl:= @List.nil_append
abbrev Zk:= @Array.getElem?_setIfInBounds
abbrev Zj:= @Array.getElem?_toList
abbrev Zi:= @List.mem_map
abbrev Zh:= @decide_eq_false
abbrev Zg:= @List.mem_singleton
abbrev Zf:= @List.getElem_mem
abbrev Ze:= @List.mem_filter
abbrev Zd:= @congrArg
abbrev Zc:= @cond_true
abbrev Zb:= @List.append_assoc
abbrev Za:= @List.take_append_of_le_length
abbrev Y9:= @Nat.mul_le_mul_right
abbrev Y8:= @Nat.lt_of_lt_of_le
abbrev Y7:= @List.take_append_drop
abbrev Y6:= @List.mem_append_right
abbrev Y5:= @List.take_left'
abbrev Y4:= @List.getElem?_take
abbrev Y3:= @List.mem_of_getElem?
abbrev Y2:= @List.mem_range
abbrev Y1:= @Array.all_toList
abbrev Y0:= @List.size_toArray
abbrev YZ:= @List.map_append
abbrev YX:= @if_true
abbrev YW:= @Prod.mk.injEq
abbrev YV:= @if_false
abbrev YU:= @Nat.lt_or_ge
abbrev YT:= @List.map_nil
abbrev YS:= @List.mem_of_mem_take
abbrev YR:= @List.mem_iff_getElem
abbrev YQ:= @List.length_drop
abbrev YP:= @List.append_nil
abbrev YO:= @Bool.or_eq_true
abbrev YN:= @Bool.eq_iff_iff
abbrev YM:= @List.getElem_append_right
abbrev YL:= @List.getElem?_append_left
abbrev YK:= @Option.some.inj
abbrev YJ:= @decide_eq_true
abbrev YI:= @Nat.add_mul
abbrev YH:= @Array.getElem?_setIfInBounds_ne
abbrev YG:= @List.getElem_of_mem
abbrev YF:= @Bool.not_eq_true'
abbrev YE:= @List.mem_of_mem_drop
abbrev YD:= @cond_false
abbrev YC:= @Nat.blt_eq
abbrev YB:= @List.length_singleton
abbrev YA:= @Nat.beq_refl
abbrev Yz:= @List.getElem?_drop
abbrev Yy:= @List.nodup_cons
abbrev Yx:= @List.getElem_cons_zero
abbrev Yw:= @Array.ext'
abbrev Yv:= @Decidable.not_not
abbrev Yu:= @List.map_take
abbrev Yt:= @List.foldl_cons
abbrev Ys:= @true_and
abbrev Yr:= @List.take_length
abbrev Yq:= @List.drop_length
abbrev Yp:= @List.any_eq_true
abbrev Yo:= @Array.replicate_zero
abbrev Yn:= @Array.replicate_succ
abbrev Ym:= @Nat.add_zero
abbrev Yl:= @List.filter_eq_nil_iff
abbrev Yk:= @List.mem_map_of_mem
abbrev Yj:= @List.append_toArray
abbrev Yi:= @Nat.min_eq_left
abbrev Yh:= @Nat.lt_succ_self
abbrev Yg:= @List.map_map
abbrev Yf:= @List.getElem_append_left
abbrev Ye:= @List.push_toArray
abbrev Yd:= @List.length_eq_zero_iff
abbrev Yc:= @Array.getElem_mem
abbrev Yb:= @Nat.mul_one
abbrev Ya:= @Bool.not_eq_true
abbrev X9:= @Nat.lt_or_eq_of_le
abbrev X8:= @List.length_filter_le
abbrev X7:= @List.cons_prefix_cons
abbrev X6:= @Array.getElem?_modify
abbrev X5:= @List.pairwise_iff_getElem
abbrev X4:= @Nat.lt_trichotomy
abbrev X3:= @Nat.le_of_lt_succ
abbrev X2:= @List.getElem?_map
abbrev X1:= @List.flatten_cons
abbrev X0:= @Option.isSome_iff_exists
abbrev XZ:= @List.length_pos_iff
abbrev XY:= @List.not_mem_nil
abbrev XW:= @List.ext_getElem
abbrev XU:= @Array.any_toList
abbrev XQ:= @exists_false
abbrev XP:= @exists_const
abbrev XN:= @List.pairwise_cons
abbrev XM:= @List.getElem_cons_succ
abbrev XL:= @List.getElem?_toArray
abbrev XK:= @of_decide_eq_true
abbrev XJ:= @List.nodup_append
abbrev XI:= @Int.toNat_natCast
abbrev XH:= @Array.any_eq_true
abbrev XG:= @Array.getElem?_setIfInBounds_self_of_lt
abbrev XF:= @List.range_eq_range'
abbrev XD:= @List.pairwise_append
abbrev XC:= @Bool.not_false
abbrev XB:= @Array.toArray_toList
abbrev XA:= @Option.getD_none
abbrev Xz:= @List.map_eq_nil_iff
abbrev Xy:= @Array.toList_append
abbrev Xx:= @List.map_drop
abbrev Xw:= @Bool.eq_false_or_eq_true
abbrev Xv:= @List.length_set
abbrev Xu:= @List.getElem_range
abbrev Xt:= @List.filter_append
abbrev Xr:= @false_and
abbrev Xq:= @Nat.min_def
abbrev Xp:= @Nat.mul_comm
abbrev Xo:= @List.getElem_take
abbrev Xn:= @List.getElem_cons_drop
abbrev Xm:= @List.foldl_append
abbrev Xl:= @List.drop_of_length_le
abbrev Xk:= @Array.size_append
abbrev Xj:= @Nat.ble_eq_true_of_le
namespace Go.Sx
inductive AV where
 |v (x:Value)
 |any
 |agg (xs:List AV)
 |bo (xs:List AV)
 |sl (nn:Bool) (ah:Nat) (rows:List (List AV))
 |own (ah t b u c:Nat) (rows:List (List AV))
 |ms (t b o n c:Nat)
 |pc (l:List AV)
 |dz (t:TypeId) (x:AV)
 |lp (t b o:Nat)
 |bD (t b:Nat)
 |ai (k:IntKind)
 |cl (f:FuncId) (a c:List AV)
 |fl (ah:Nat) (rows:List (List AV))
deriving Inhabited
abbrev Mem:=Nat→Nat→Option Value
def Mem.le(M M':Mem):Prop:=∀ b o v,M b o=some v→M' b o=some v
theorem Mem.le.refl(M:Mem):M.le M:=fun _ _ _ h=>h
theorem Mem.le.trans{A B C:Mem}(h:A.le B)(k:B.le C):A.le C:=fun b o v x=>k b o v (h b o v x)
inductive R(M:Mem):AV→Value→Prop
 |v (x:Value):R M (.v x) x
 |any (x:Value):R M .any x
 |agg (xs:List AV) (cs:List Value) (hl:xs.length=cs.length) (h:∀ i (h1:i<xs.length) (h2:i<cs.length),R M xs[i] cs[i]):R M (.agg xs) (.agg cs.toArray)
 |bo (xs:List AV) (cs:List Value) (hl:xs.length=cs.length) (h:∀ i (h1:i<xs.length) (h2:i<cs.length),R M xs[i] cs[i]):R M (.bo xs) (.tuple cs.toArray)
 |nil (nn:Bool) (ah:Nat) (a:Option Addr) (h:nn=true→a.isSome=true):R M (.sl nn ah []) (.slice a 0 0)
 |sl (nn:Bool) (ah:Nat) (rows:List (List AV)) (b off cap:Nat) (cs:Nat→Value) (bg:∀ i (h:i<rows.length),rows[i].length=ah)
   (hM:∀ k,k<rows.length * ah→M b (off+k)=some (cs k))
   (hR:∀ i (h:i<rows.length) j (h2:j<rows[i].length),R M rows[i][j] (cs (i * ah+j)))
   (hc:rows.length≤cap) (hm:cap≤maxLen):R M (.sl nn ah rows) (.slice (some ⟨b,off,none⟩) rows.length cap)
 |ms (t b o n c:Nat):R M (.ms t b o n c) (.slice (some ⟨b,o,none⟩) n c)
 |own (ah t b u c:Nat) (rows:List (List AV)) (off cap:Nat) (cs:Nat→Value) (bg:∀ i (h:i<rows.length),rows[i].length=ah)
   (hM:∀ k,k<rows.length * ah→M b (off+k)=some (cs k))
   (hR:∀ i (h:i<rows.length) j (h2:j<rows[i].length),R M rows[i][j] (cs (i * ah+j)))
   (hc:rows.length≤cap) (hm:cap≤maxLen) (hu:cap=0∨(off+rows.length * ah=u∧off+cap * ah≤c)) (he:0<ah):R M (.own ah t b u c rows) (.slice (some ⟨b,off,none⟩) rows.length cap)
 |pc (l:List AV) (b off:Nat) (cs:Nat→Value) (hM:∀ k,k<l.length→M b (off+k)=some (cs k))
   (hR:∀ k (h:k<l.length),R M l[k] (cs k)):R M (.pc l) (.pointer (some ⟨b,off,none⟩))
 |dz (t:TypeId) (x:AV) (v:Value) (h:R M x v):R M (.dz t x) (.iface t v)
 |lp (t b o:Nat):R M (.lp t b o) (.pointer (some ⟨b,o,none⟩))
 |bD (t b:Nat):R M (.bD t b) (.map (some b))
 |ai (k:IntKind) (n:Int):R M (.ai k) (.int k n)
 |cl (f:FuncId) (a c:List AV) (va vc:List Value) (hl:a.length=va.length) (fq:c.length=vc.length) (h:∀ i (h1:i<a.length) (h2:i<va.length),R M a[i] va[i])
   (h':∀ i (h1:i<c.length) (h2:i<vc.length),R M c[i] vc[i]):R M (.cl f a c) (.func (.func f) va.toArray vc.toArray)
 |fl (ah:Nat) (rows:List (List AV)) (b off:Nat) (cs:Nat→Value) (bg:∀ i (h:i<rows.length),rows[i].length=ah)
   (hM:∀ k,k<rows.length * ah→M b (off+k)=some (cs k))
   (hR:∀ i (h:i<rows.length) j (h2:j<rows[i].length),R M rows[i][j] (cs (i * ah+j)))
   (hm:rows.length≤maxLen):R M (.fl ah rows) (.slice (some ⟨b,off,none⟩) rows.length rows.length)
theorem R.mono{M M':Mem}(hM:M.le M'){x:AV}{v:Value}(h:R M x v):R M' x v:=by
 induction h with
 |v x=>exact .v x
 |any x=>exact .any x
 |agg xs cs hl _ ih=>exact .agg xs cs hl ih
 |bo xs cs hl _ ih=>exact .bo xs cs hl ih
 |nil nn ah a h=>exact .nil nn ah a h
 |sl nn ah rows b off cap cs bg hm _ hc hx ih=>exact .sl nn ah rows b off cap cs bg (fun k hk=>hM _ _ _ (hm k hk)) ih hc hx
 |ms t b o n c=>exact .ms t b o n c
 |own ah t b u c rows off cap cs bg hm _ hc hx hu he ih=>exact .own ah t b u c rows off cap cs bg (fun k hk=>hM _ _ _ (hm k hk)) ih hc hx hu he
 |pc l b off cs hm _ ih=>exact .pc l b off cs (fun k hk=>hM _ _ _ (hm k hk)) ih
 |dz t x v _ ih=>exact .dz t x v ih
 |lp t b o=>exact .lp t b o
 |bD t b=>exact .bD t b
 |ai k n=>exact .ai k n
 |cl f a c va vc hl fq _ _ ih kC=>exact .cl f a c va vc hl fq ih kC
 |fl ah rows b off cs bg hm _ hx ih=>exact .fl ah rows b off cs bg (fun k hk=>hM _ _ _ (hm k hk)) ih hx
def RL(M:Mem)(xs:List AV)(cs:List Value):Prop:=xs.length=cs.length∧∀ i (h1:i<xs.length) (h2:i<cs.length),R M xs[i] cs[i]
theorem RL.mono{M M':Mem}(hM:M.le M'){xs:List AV}{cs:List Value}(h:RL M xs cs):RL M' xs cs:=⟨h.1,fun i a b=>(h.2 i a b).mono hM⟩
theorem RL.nil{M:Mem}:RL M [] []:=⟨rfl,fun i h=>absurd h (by simp)⟩
theorem RL.cons{M:Mem}{x:AV}{v:Value}{xs:List AV}{cs:List Value}(h:R M x v)(t:RL M xs cs):RL M (x::xs) (v::cs):=by
 refine⟨by simp[t.1],fun i h1 h2=> ?_⟩
 cases i with
 |zero=>exact h
 |succ i=>simpa using t.2 i (by grind) (by grind)
theorem RL.aX{M:Mem}{x:AV}{xs:List AV}{cs:List Value}(h:RL M (x::xs) cs):∃ v bO,cs=v::bO∧R M x v∧RL M xs bO:=by
 obtain⟨hl,hr⟩:=h
 cases cs with
 |nil=>grind
 |cons v bO=>
  exact⟨v,bO,rfl,hr 0 (by simp) (by simp),by grind,fun i h1 h2=>hr (i+1) (by grind) (by grind)⟩
theorem RL.pX{M:Mem}{cs:List Value}(h:RL M [] cs):cs=[]:=by
 have:=h.1;simp at this;exact Zt this.symm
theorem RL.append{M:Mem}{xs ys:List AV}{cs ds:List Value}(h:RL M xs cs)(k:RL M ys ds):RL M (xs++ys) (cs++ds):=by
 induction xs generalizing cs with
 |nil=>obtain rfl:=h.pX;grind
 |cons x xs ih=>obtain⟨v,bO,rfl,a,b⟩:=h.aX;exact RL.cons a (ih b)
theorem RL.get{M:Mem}{xs:List AV}{cs:List Value}(h:RL M xs cs){i:Nat}{x:AV}(hx:xs[i]? =some x):∃ v,cs[i]? =some v∧R M x v:=by
 obtain⟨hi,rfl⟩:=ZE.1 hx
 have h2:i<cs.length:=h.1 ▸ hi
 exact⟨cs[i],Z1 h2,h.2 i hi h2⟩
theorem RL.drop{M:Mem}{xs:List AV}{cs:List Value}(h:RL M xs cs)(n:Nat):RL M (xs.drop n) (cs.drop n):=by
 refine⟨by simp[h.1],fun i h1 h2=> ?_⟩
 simp
 exact h.2 _ _ _
theorem RL.take{M:Mem}{xs:List AV}{cs:List Value}(h:RL M xs cs)(n:Nat):RL M (xs.take n) (cs.take n):=by
 refine⟨by simp[h.1],fun i h1 h2=> ?_⟩
 simp
 exact h.2 _ _ _
theorem RL.set{M:Mem}{xs:List AV}{cs:List Value}(h:RL M xs cs)(n:Nat){x:AV}{v:Value}(hx:R M x v):RL M (xs.set n x) (cs.set n v):=by
 refine⟨by simp[h.1],fun i h1 h2=> ?_⟩
 simp only[List.getElem_set]
 split
 ·exact hx
 ·exact h.2 _ _ _
theorem RL.exact{M:Mem}(cs:List Value):RL M (cs.map .v) cs:=⟨by simp,fun i h1 h2=>by simpa using R.v _⟩
theorem R.oG{M:Mem}{xs:List AV}{v:Value}(h:R M (.agg xs) v):∃ cs,v= .agg cs.toArray∧RL M xs cs:=by
 cases h with
 |agg _ cs hl hr=>exact⟨cs,rfl,hl,hr⟩
theorem R.oF{M:Mem}{xs:List AV}{cs:List Value}(h:RL M xs cs):R M (.agg xs) (.agg cs.toArray):= .agg xs cs h.1 h.2
theorem R.QX{M:Mem}{xs:List AV}{v:Value}(h:R M (.bo xs) v):∃ cs,v= .tuple cs.toArray∧RL M xs cs:=by
 cases h with
 |bo _ cs hl hr=>exact⟨cs,rfl,hl,hr⟩
theorem R.td{M:Mem}{xs:List AV}{cs:List Value}(h:RL M xs cs):R M (.bo xs) (.tuple cs.toArray):= .bo xs cs h.1 h.2
theorem R.ay{M:Mem}{x v:Value}(h:R M (.v x) v):v=x:=by cases h;rfl
theorem R.tq{M:Mem}{l:List AV}{v:Value}(h:R M (.pc l) v):∃ b off,∃ cs:Nat→Value,v= .pointer (some ⟨b,off,none⟩)∧(∀ k,k<l.length→M b (off+k)=some (cs k))∧∀ k (h:k<l.length),R M l[k] (cs k):=by
 cases h with
 |pc _ b off cs h1 h2=>exact⟨b,off,cs,rfl,h1,h2⟩
structure Rows(M:Mem)(b off ah:Nat)(rows:List (List AV))(cs:Nat→Value):Prop where
 size:∀ i (h:i<rows.length),rows[i].length=ah
 mem:∀ k,k<rows.length * ah→M b (off+k)=some (cs k)
 rel:∀ i (h:i<rows.length) j (h2:j<rows[i].length),R M rows[i][j] (cs (i * ah+j))
theorem R.nj{M:Mem}{nn:Bool}{ah:Nat}{rows:List (List AV)}{v:Value}(h:R M (.sl nn ah rows) v):(∃ a:Option Addr,(nn=true→a.isSome=true)∧rows=[]∧v= .slice a 0 0)∨
  ∃ b off cap cs,v= .slice (some ⟨b,off,none⟩) rows.length cap∧Rows M b off ah rows cs∧rows.length≤cap∧cap≤maxLen:=by
 cases h with
 |nil _ _ a h=>grind
 |sl _ _ _ b off cap cs h1 h2 h3 h4 h5=>exact .inr ⟨b,off,cap,cs,rfl,⟨h1,h2,h3⟩,h4,h5⟩
theorem R.nc{M:Mem}{b off cap ah:Nat}{cs:Nat→Value}{rows:List (List AV)}(h:Rows M b off ah rows cs)(h4:rows.length≤cap)(h5:cap≤maxLen)(nn:Bool):R M (.sl nn ah rows) (.slice (some ⟨b,off,none⟩) rows.length cap):=
 .sl nn ah rows b off cap cs h.size h.mem h.rel h4 h5
theorem R.pO{M:Mem}{t b o n c:Nat}{v:Value}(h:R M (.ms t b o n c) v):v= .slice (some ⟨b,o,none⟩) n c:=by cases h;rfl
theorem R.pP{M:Mem}{ah t b u c:Nat}{rows:List (List AV)}{v:Value}(h:R M (.own ah t b u c rows) v):
  ∃ off cap cs,v= .slice (some ⟨b,off,none⟩) rows.length cap∧Rows M b off ah rows cs∧rows.length≤cap∧cap≤maxLen∧(cap=0∨(off+rows.length * ah=u∧off+cap * ah≤c))∧0<ah:=by
 cases h with
 |own _ _ _ _ _ _ off cap cs h1 h2 h3 h4 h5 h6 h8=>exact⟨off,cap,cs,rfl,⟨h1,h2,h3⟩,h4,h5,h6,h8⟩
theorem R.qN{M:Mem}{t b u c off cap ah:Nat}{cs:Nat→Value}{rows:List (List AV)}(h:Rows M b off ah rows cs)(h4:rows.length≤cap)(h5:cap≤maxLen)(h6:cap=0∨(off+rows.length * ah=u∧off+cap * ah≤c))(h8:0<ah):
  R M (.own ah t b u c rows) (.slice (some ⟨b,off,none⟩) rows.length cap):= .own ah t b u c rows off cap cs h.size h.mem h.rel h4 h5 h6 h8
theorem R.afv{M:Mem}{ah t b u c:Nat}{rows:List (List AV)}{v:Value}(h:R M (.own ah t b u c rows) v)(nn:Bool):R M (.sl nn ah rows) v:=by
 obtain⟨off,cap,cs,rfl,hr,h4,h5,_⟩:=h.pP
 exact R.nc hr h4 h5 nn
theorem R.QS{M:Mem}{ah:Nat}{rows:List (List AV)}{v:Value}(h:R M (.fl ah rows) v):∃ b off cs,v= .slice (some ⟨b,off,none⟩) rows.length rows.length∧Rows M b off ah rows cs∧rows.length≤maxLen:=by
 cases h with
 |fl _ _ b off cs h1 h2 h3 h4=>exact⟨b,off,cs,rfl,⟨h1,h2,h3⟩,h4⟩
theorem R.aeY{M:Mem}{b off ah:Nat}{cs:Nat→Value}{rows:List (List AV)}(h:Rows M b off ah rows cs)(h5:rows.length≤maxLen):R M (.fl ah rows) (.slice (some ⟨b,off,none⟩) rows.length rows.length):=
 .fl ah rows b off cs h.size h.mem h.rel h5
theorem R.GD{M:Mem}{ah:Nat}{rows:List (List AV)}{v:Value}(h:R M (.fl ah rows) v)(nn:Bool):R M (.sl nn ah rows) v:=by
 obtain⟨b,off,cs,rfl,hr,h5⟩:=h.QS
 exact R.nc hr (ZX _) h5 nn
theorem R.aik{M:Mem}{ah:Nat}{rows:List (List AV)}{v:Value}(h:R M (.sl true ah rows) v):R M (.sl false ah rows) v:=by
 rcases h.nj with⟨a,_,rfl,rfl⟩|⟨b,off,cap,cs,rfl,hr,h4,h5⟩
 ·exact .nil _ _ _ (fun h=>nomatch h)
 ·exact R.nc hr h4 h5 _
theorem R.oH{M:Mem}{t b o:Nat}{v:Value}(h:R M (.lp t b o) v):v= .pointer (some ⟨b,o,none⟩):=by cases h;rfl
theorem R.pN{M:Mem}{t b:Nat}{v:Value}(h:R M (.bD t b) v):v= .map (some b):=by cases h;rfl
theorem R.afl{M:Mem}{k:IntKind}{v:Value}(h:R M (.ai k) v):∃ n,v= .int k n:=by cases h with|ai _ n=>exact⟨n,rfl⟩
theorem R.JK{M:Mem}{f:FuncId}{a c:List AV}{v:Value}(h:R M (.cl f a c) v):∃ va vc:List Value,v= .func (.func f) va.toArray vc.toArray∧RL M a va∧RL M c vc:=by
 cases h with
 |cl _ _ _ va vc hl fq h h'=>exact⟨va,vc,rfl,⟨hl,h⟩,⟨fq,h'⟩⟩
theorem R.aeX{M:Mem}{f:FuncId}{a c:List AV}{va vc:List Value}(h:RL M a va)(h':RL M c vc):R M (.cl f a c) (.func (.func f) va.toArray vc.toArray):= .cl f a c va vc h.1 h'.1 h.2 h'.2
theorem R.QT{M:Mem}{t:TypeId}{x:AV}{v:Value}(h:R M (.dz t x) v):∃ u,v= .iface t u∧R M x u:=by
 cases h with
 |dz _ _ u h=>exact⟨u,rfl,h⟩
theorem ae5{i n ah j:Nat}(hi:i<n)(hj:j<ah):i * ah+j<n * ah:=by
 have:(i+1) * ah≤n * ah:=Y9 _ hi
 rw[Nat.succ_mul]at this
 omega
theorem Rows.mono{M M':Mem}(hM:M.le M'){b off ah:Nat}{rows:List (List AV)}{cs:Nat→Value}(h:Rows M b off ah rows cs):Rows M' b off ah rows cs:=
 ⟨h.size,fun k hk=>hM _ _ _ (h.mem k hk),fun i hi j hj=>(h.rel i hi j hj).mono hM⟩
theorem Rows.sub{M:Mem}{b off ah:Nat}{rows:List (List AV)}{cs:Nat→Value}(h:Rows M b off ah rows cs)(lo hi:Nat)(hh:hi≤rows.length)(hl:lo≤hi):
  Rows M b (off+lo * ah) ah ((rows.take hi).drop lo) (fun k=>cs (lo * ah+k)):=by
 have hlen:((rows.take hi).drop lo).length=hi-lo:=by grind
 refine⟨fun i h1=> ?_,fun k hk=> ?_,fun i h1 j h2=> ?_⟩
 ·simp
  exact h.size _ _
 ·rw[hlen]at hk
  have hb:lo * ah+k<rows.length * ah:=by
   have h1:(hi-lo) * ah+lo * ah=hi * ah:=by rw[← YI];grind
   have h2:hi * ah≤rows.length * ah:=Y9 _ hh
   omega
  rw[Nat.add_assoc]
  exact h.mem _ hb
 ·have h3:lo+i<rows.length:=by grind
  have hj:j<rows[lo+i].length:=by grind
  have:=h.rel (lo+i) h3 j hj
  grind
theorem Rows.pc{M:Mem}{b off ah:Nat}{rows:List (List AV)}{cs:Nat→Value}(h:Rows M b off ah rows cs)(i:Nat)(hi:i<rows.length):
  R M (.pc (rows.getD i [])) (.pointer (some ⟨b,off+i * ah,none⟩)):=by
 have e:rows.getD i []=rows[i]:=by simp[hi]
 rw[e]
 refine .pc _ b _ (fun k=>cs (i * ah+k)) (fun k hk=> ?_) (fun k hk=>h.rel i hi k hk)
 rw[h.size i hi]at hk
 rw[Nat.add_assoc]
 exact h.mem _ (ae5 hi hk)
def AV.cells? :AV→Option (List AV)
 | .v (.agg cs)=>some (cs.toList.map .v)
 | .v (.tuple _)=>none
 | .agg xs=>some xs
 | .any=>none
 | .bo _=>none
 |x=>some [x]
def AV.iJ :AV→Option (List AV)
 | .v (.agg cs)=>some (cs.toList.map .v)
 | .agg xs=>some xs
 |_=>none
theorem R.FG{M:Mem}{x:AV}{v:Value}{l:List AV}(h:R M x v)(hl:x.iJ =some l):∃ cs,v= .agg cs∧RL M l cs.toList:=by
 cases h with
 |v=>
  cases v with
  |agg cs=>simp[AV.iJ]at hl;subst hl;exact⟨cs,rfl,RL.exact _⟩
  |_=>simp[AV.iJ]at hl
 |agg xs cs fq hr=>simp[AV.iJ]at hl;subst hl;exact⟨cs.toArray,rfl,fq,hr⟩
 |_=>simp[AV.iJ]at hl
def AV.one:AV→Bool
 | .v x=>x.oneCell'
 | .any| .agg _| .bo _=>false
 |_=>true
theorem R.cells{M:Mem}{x:AV}{v:Value}{l:List AV}(h:R M x v)(hl:x.cells? =some l):RL M l v.cells.toList:=by
 cases h with
 |v=>
  cases v with
  |agg cs=>simp[AV.cells?]at hl;subst hl;exact RL.exact _
  |tuple _=>simp[AV.cells?]at hl
  |_=>simp only[AV.cells?,ZY]at hl;subst hl;exact RL.cons (.v _) RL.nil
 |any=>simp[AV.cells?]at hl
 |agg xs cs fq hr=>simp[AV.cells?]at hl;subst hl;exact⟨fq,hr⟩
 |bo=>simp[AV.cells?]at hl
 |nil nn ah a h=>simp only[AV.cells?,ZY]at hl;subst hl;exact RL.cons (.nil nn ah a h) RL.nil
 |sl nn ah rows b off cap cs a1 a2 a3 a4 a5=>simp only[AV.cells?,ZY]at hl;subst hl;exact RL.cons (.sl nn ah rows b off cap cs a1 a2 a3 a4 a5) RL.nil
 |ms t b o n c=>simp only[AV.cells?,ZY]at hl;subst hl;exact RL.cons (.ms t b o n c) RL.nil
 |own ah t b u c rows off cap cs a1 a2 a3 a4 a5 a6 a8=>simp only[AV.cells?,ZY]at hl;subst hl;exact RL.cons (.own ah t b u c rows off cap cs a1 a2 a3 a4 a5 a6 a8) RL.nil
 |pc l b off cs a1 a2=>simp only[AV.cells?,ZY]at hl;subst hl;exact RL.cons (.pc l b off cs a1 a2) RL.nil
 |dz t x v a=>simp only[AV.cells?,ZY]at hl;subst hl;exact RL.cons (.dz t x v a) RL.nil
 |lp t b o=>simp only[AV.cells?,ZY]at hl;subst hl;exact RL.cons (.lp t b o) RL.nil
 |bD t b=>simp only[AV.cells?,ZY]at hl;subst hl;exact RL.cons (.bD t b) RL.nil
 |ai k n=>simp only[AV.cells?,ZY]at hl;subst hl;exact RL.cons (.ai k n) RL.nil
 |cl f a c va vc a1 a2 a3 a4=>simp only[AV.cells?,ZY]at hl;subst hl;exact RL.cons (.cl f a c va vc a1 a2 a3 a4) RL.nil
 |fl ah rows b off cs a1 a2 a3 a4=>simp only[AV.cells?,ZY]at hl;subst hl;exact RL.cons (.fl ah rows b off cs a1 a2 a3 a4) RL.nil
theorem R.one{M:Mem}{x:AV}{v:Value}(h:R M x v)(hl:x.one=true):v.oneCell'=true:=by
 cases h<;>simp_all [AV.one,Value.oneCell']
inductive aZ where
 |cells (l:List AV)
 |tail (u c:Nat)
 |map (es:List (Value×Nat×AV)) (k:Nat)
deriving Inhabited
abbrev ag:=List (Nat×AV)
abbrev Store:=List (Nat×Nat×aZ)
def lk:ag→Nat→AV
 |[],_=> .any
 |(i,x)::r,j=>bif Nat.beq i j then x else lk r j
def aV:Store→Nat→Option (Nat×aZ)
 |[],_=>none
 |(i,b,x)::r,j=>bif Nat.beq i j then some (b,x)else aV r j
def BlkOK(M:Mem)(w:World)(b:Nat):aZ→Prop
 | .cells l=>(∀ o,M b o=none)∧∃ cs t,w.heap[b]? =some (.cells cs t (0,0))∧RL M l cs.toList
 | .tail u c=>(∀ o,u≤o→M b o=none)∧∃ cs t,w.heap[b]? =some (.cells cs t (0,0))∧cs.size=c∧u≤c
 | .map es k=>(∀ o,M b o=none)∧∃ l:List MapEntry,w.heap[b]? =some (.map l.toArray k)∧l.map (fun e=>(e.key,e.born))=es.map (fun e=>(e.1,e.2.1))∧RL M (es.map (·.2.2)) (l.map (·.val))
class Glob (P:Program) where
 av:Nat→Option (List AV)
 gw:World→Prop
 df:List Deferred:=[]
instance (priority:=low) Glob.empty (P:Program):Glob P:=⟨fun _=>none,fun _=>True,[]⟩
class gO (P:Program) [Glob P]:Prop where
 h:Glob.df P=[]
instance (priority:=low) gO.empty (P:Program): @gO P (Glob.empty P):= @gO.mk P (Glob.empty P) rfl
structure Base extends World where
 bm:Mem
instance:Coe Base World:=⟨Base.toWorld⟩
structure Inv(P:Program)[Glob P](M:Mem)(w0:Base)(σ:Store)(w:World):Prop where
 os:w.os=w0.os
 tape:w.tape=w0.tape
 output:w.output=w0.output
 size:w0.heap.size≤w.heap.size
 old:∀ k,k<w0.heap.size→w.heap[k]? =w0.heap[k]?
 bL:∀ b o v,M b o=some v→w.cell? ⟨b,o,none⟩=some v
 st:∀ e∈σ,w0.heap.size≤e.2.1∧BlkOK M w e.2.1 e.2.2
 nd:(σ.map (·.2.1)).Nodup
 gl:∀ g l,Glob.av P g=some l→R M (.pc l) (.pointer (some ⟨g,0,none⟩))
 gw:Glob.gw P w0
 bm:∀ b o v,M b o=some v→b<w0.heap.size→w0.bm b o=some v
def bQ(M:Mem)(rg:ag)(a:Act):Prop:=∀ i,R M (lk rg i) (a.tmps.getD i undef)
theorem bQ.mono{M M':Mem}(hM:M.le M'){rg:ag}{a:Act}(h:bQ M rg a):bQ M' rg a:=fun i=>(h i).mono hM
def ev(rg:ag):Operand→AV
 | .tmp t=>lk rg t
 | .const v=> .v v
 | .global g=> .v (.pointer (some ⟨g,0,none⟩))
 | .func f=> .v (.func (.func f) #[] #[])
theorem bQ.ev{M:Mem}{rg:ag}{a:Act}(h:bQ M rg a)(x:Operand):R M (ev rg x) (a.eval x):=by
 cases x with
 |tmp t=>exact h t
 |const v=>exact .v v
 |global g=>exact .v _
 |func f=>exact .v _
def bz(d:Option Nat)(x:AV)(rg:ag):ag:=match d with|some d=>(d,x)::rg|none=>rg
theorem bQ.put{M:Mem}{rg:ag}{a:Act}(h:bQ M rg a)(d:Option Nat){x:AV}{v:Value}(hd:∀ t,d=some t→t<a.tmps.size)(hx:R M x v):bQ M (bz d x rg) (a.put d v):=by
 cases d with
 |none=>exact h
 |some d=>
  intro i
  simp only[bz,lk,Act.put]
  by_cases e:d=i
  ·simp_all
  ·have hb:Nat.beq d i=false:=by rw[← Ya,Nat.beq_eq];grind
   have:(a.tmps.setIfInBounds d v).getD i undef=a.tmps.getD i undef:=by
    simp_all
   rw[hb,this]
   exact h i
theorem Act.size_put(a:Act)(d:Option Nat)(v:Value):(a.put d v).tmps.size=a.tmps.size:=by cases d<;>simp[Act.put]
theorem Act.zk(a:Act)(d:Option Nat)(v:Value):(a.put d v).defers=a.defers:=by cases d<;>simp[Act.put]
def ep:List Nat→ag→ag
 |[],_=>[]
 |i::l,rg=>(i,lk rg i)::ep l rg
theorem bQ.ep{M:Mem}{rg:ag}{a:Act}(h:bQ M rg a)(l:List Nat):bQ M (ep l rg) a:=by
 induction l with
 |nil=>exact fun i=> .any _
 |cons t l ih=>
  intro i
  simp only[Sx.ep,lk]
  cases hb:Nat.beq t i with
  |true=>rw[Z0 hb];exact h i
  |false=>exact ih i
theorem Inv.drew{P:Program}[Glob P]{M:Mem}{w0:Base}{σ:Store}{w:World}(h:Inv P M w0 σ w)(n:Nat):Inv P M w0 σ {w with drawn:=n}:=
 ⟨h.os,h.tape,h.output,h.size,h.old,h.bL,h.st,h.nd,h.gl,h.gw,h.bm⟩
theorem BlkOK.lt{M:Mem}{w:World}{b:Nat}{x:aZ}(h:BlkOK M w b x):b<w.heap.size:=by
 cases x with
 |cells l=>obtain⟨_,cs,t,hh,_⟩:=h;grind
 |tail u c=>obtain⟨_,cs,t,hh,_⟩:=h;grind
 |map es k=>obtain⟨_,l,hh,_⟩:=h;grind
theorem Inv.pM{P:Program}[Glob P]{M:Mem}{w0:Base}{σ:Store}{w:World}(h:Inv P M w0 σ w){e:Nat×Nat×aZ}(he:e∈σ):e.2.1<w.heap.size:=(h.st e he).2.lt
theorem Inv.fresh{P:Program}[Glob P]{M:Mem}{w0:Base}{σ:Store}{w:World}(h:Inv P M w0 σ w):w.heap.size∉σ.map (·.2.1):=by
 intro hm
 obtain⟨e,he,h2⟩:=Zi.1 hm
 have:=h.pM he
 omega
theorem s8:∀ {σ:Store} {t b:Nat} {x:aZ},aV σ t=some (b,x)→(t,b,x)∈σ
 |[],t,b,x,h=>by cases h
 |(i,b',x')::r,t,b,x,h=>by
  simp only[aV]at h
  cases hb:Nat.beq i t with
  |true=>
   simp_all
  |false=>rw[hb]at h;exact ZL _ (s8 h)
def du:Store→Nat→Nat→aZ→Store
 |[],_,_,_=>[]
 |(i,b',x')::r,t,b,x=>bif Nat.beq i t then(t,b,x)::r else(i,b',x')::du r t b x
theorem wg:∀ {σ:Store} {t b:Nat} {x:aZ},aV σ t=some (b,x)→∃ pre post,σ=pre++(t,b,x)::post∧∀ b' x',du σ t b' x'=pre++(t,b',x')::post
 |[],t,b,x,h=>by cases h
 |(i,b0,x0)::r,t,b,x,h=>by
  simp only[aV]at h
  cases hb:Nat.beq i t with
  |true=>
   refine⟨[],r,by simp_all,fun b' x'=>by simp only[du,hb,Zc,Zl]⟩
  |false=>
   rw[hb]at h
   obtain⟨pre,post,h1,h2⟩:=wg h
   exact⟨(i,b0,x0)::pre,post,by grind,fun b' x'=>by simp only[du,hb,YD,h2,ZG]⟩
theorem Inv.GL{P:Program}[Glob P]{M:Mem}{w0:Base}{σ:Store}{w:World}(h:Inv P M w0 σ w)(o:Nat):M w.heap.size o=none:=by
 cases e:M w.heap.size o with
 |none=>rfl
 |some x=>have:=World.block_lt_of_cell? _ _ (h.bL _ _ _ e);grind
theorem Ie(w:World)(o:Obj)(k:Nat)(h:k<w.heap.size):(w.alloc o).heap[k]? =w.heap[k]? :=by
 show(w.heap.push o)[k]? =_
 grind
theorem heap_alloc_new(w:World)(o:Obj):(w.alloc o).heap[w.heap.size]? =some o:=by
 show(w.heap.push o)[w.heap.size]? =_
 rw[Array.getElem?_push,ZV rfl]
theorem BlkOK.heap{M:Mem}{w w':World}{b:Nat}{x:aZ}(h:BlkOK M w b x)(e:w'.heap[b]? =w.heap[b]?):BlkOK M w' b x:=by
 cases x with
 |cells l=>obtain⟨a,cs,t,hh,r⟩:=h;exact⟨a,cs,t,e.trans hh,r⟩
 |tail u c=>obtain⟨a,cs,t,hh,r⟩:=h;exact⟨a,cs,t,e.trans hh,r⟩
 |map es k=>obtain⟨a,l,hh,r⟩:=h;exact⟨a,l,e.trans hh,r⟩
theorem Inv.alloc{P:Program}[Glob P]{M:Mem}{w0:Base}{σ:Store}{w:World}(h:Inv P M w0 σ w)(o:Obj):Inv P M w0 σ (w.alloc o):=by
 refine⟨h.os,h.tape,h.output,by simp;have:=h.size;omega,fun k hk=> ?_,fun b o' v hv=> ?_,fun e he=> ?_,h.nd,h.gl,h.gw,h.bm⟩
 ·rw[Ie _ _ _ (Y8 hk h.size)];exact h.old k hk
 ·have:=h.bL b o' v hv
  rw[World.cell?_alloc_lt _ _ _ (World.block_lt_of_cell? _ _ this)];grind
 ·exact⟨(h.st e he).1,(h.st e he).2.heap (Ie _ _ _ (h.pM he))⟩
theorem Inv.box{P:Program}[Glob P]{M:Mem}{w0:Base}{σ:Store}{w:World}(h:Inv P M w0 σ w){cs:List Value}{l:List AV}(t:TypeId)(hl:RL M l cs)(tag:Nat):
  Inv P M w0 ((tag,w.heap.size,.cells l)::σ) (w.alloc (.cells cs.toArray t)):=by
 have h':=h.alloc (.cells cs.toArray t)
 refine⟨h'.os,h'.tape,h'.output,h'.size,h'.old,h'.bL,fun e he=> ?_,?_,h'.gl,h'.gw,h'.bm⟩
 ·rcases ZK.1 he with rfl|he
  ·exact⟨h.size,h.GL,cs.toArray,t,heap_alloc_new _ _,by grind⟩
  ·exact h'.st e he
 ·simp only[Zv,Yy]
  exact⟨h.fresh,h.nd⟩
end Go.Sx
namespace Go.Sx
open Go.RowKit
inductive gP where
 |ret (x:AV)
 |jW (ch:List PanicEntry)
def iH(M:Mem):gP→Ending→Prop
 | .ret x,.returned v=>R M x v
 | .jW ch,.panicked F3=>F3=ch
 |_,_=>False
def Spec(P:Program)[Glob P](f:FuncId)(as:List AV)(σ:Store)(Q:gP→Store→Prop):Prop:=
 ∀ (M:Mem) (w0:Base) (w:World) (cs:List Value),Inv P M w0 σ w→RL M as cs→
  Calls P f cs.toArray w fun e w'=>∃ M' r σ',M.le M'∧Inv P M' w0 σ' w'∧iH M' r e∧Q r σ'
structure Pure(P:Program)[Glob P](f:FuncId)(as:List AV)(r:AV):Prop where
 sp:∀ σ,Spec P f as σ fun r' σ'=>r'= .ret r∧σ'=σ
def oT(P:Program)[Glob P](f:FuncId)(as:List AV)(σ:Store)(K:AV→Store→Prop)(E:List PanicEntry→Store→Prop):Prop:=
 ∃ Q:gP→Store→Prop,Spec P f as σ Q∧(∀ x σ',Q (.ret x) σ'→K x σ')∧(∀ ch σ',Q (.jW ch) σ'→E ch σ')
theorem callP_congr{P:Program}[Glob P]{f:FuncId}{as as':List AV}{σ:Store}{K:AV→Store→Prop}{E:List PanicEntry→Store→Prop}(h:as=as'):oT P f as σ K E=oT P f as' σ K E:=by rw[h]
theorem wS{P:Program}[Glob P]{f:FuncId}{as:List AV}{σ:Store}{K:AV→Store→Prop}{E:List PanicEntry→Store→Prop}{r:AV}(h:Pure P f as r)(k:K r σ):oT P f as σ K E:=
 ⟨_,h.sp σ,fun _ _ ⟨e,e'⟩=>by grind,fun _ _ ⟨e,_⟩=>by cases e⟩
def gR(P:Program)[Glob P](f:FuncId):Bool:=
 match P.funcs[f]? with
 |some fn=>fn.name != "runtime.NumGoroutine" && fn.body.isSome
 |none=>false
inductive rH where
 |int|str|bool
deriving DecidableEq
inductive wz where
 |bool|slice|map|func|ptr
deriving DecidableEq
inductive TI where
 |str
 |int (k:IntKind)
 |sl (e:TypeId)
 |mp (k v:TypeId)
 |sz (n:Nat)
 |other
deriving DecidableEq
def jA:Option TypeDesc→TI
 |some .string=> .str
 |some (.int k)=> .int k
 |some (.slice e)=> .sl e
 |some (.map k v)=> .mp k v
 |_=> .other
def zr(P:Program)(t:TypeId):TI:=match P.underlying t with
 |some (.slice e)=>jA (P.underlying e)
 |_=> .other
def AO(P:Program)(t:TypeId):TI:=match P.underlying t with
 |some (.map k _)=>jA (P.underlying k)
 |_=> .other
def Bo(P:Program)(t:TypeId):TI:=match P.underlying t with
 |some (.slice e)=>match P.info? e with
  |some i=> .sz i.size
  |none=> .other
 |_=> .other
def ei(P:Program):Op→List TI
 | .convert s d _=>[jA (P.underlying s),zr P s,jA (P.underlying d),zr P d]
 | .slice t _ _ _ (some _)=>[jA (P.underlying t),Bo P t]
 | .slice t _ _ _ none=>[jA (P.underlying t)]
 | .insert t _ _ _| .mapUpdate t _ _ _| .mapEntry t _ _| .entryStore t _ _ _| .lookup t _ _ _=>[jA (P.underlying t),AO P t]
 | .makeSlice t _ _=>[jA (P.underlying t),zr P t]
 |_=>[]
theorem EL{d:Option TypeDesc}(h:jA d= .str):d=some .string:=by unfold jA at h;split at h<;>first|rfl|cases h
theorem KI{d:Option TypeDesc}{k:IntKind}(h:jA d= .int k):d=some (.int k):=by unfold jA at h;split at h<;>first|(cases h;rfl)|cases h
theorem yu{d:Option TypeDesc}{e:TypeId}(h:jA d= .sl e):d=some (.slice e):=by unfold jA at h;split at h<;>first|(cases h;rfl)|cases h
theorem tL{d:Option TypeDesc}{k v:TypeId}(h:jA d= .mp k v):d=some (.map k v):=by unfold jA at h;split at h<;>first|(cases h;rfl)|cases h
inductive ax where
 |mv (x:Operand)
 |pick (c a b:Operand)
 |box (t:TypeId) (x:Operand)
 |alloc (t:TypeId) (z:Value)
 |build (z:List Value) (parts:List (Nat×Nat×Operand))
 |dF (t:TypeId) (ah:Nat) (parts:List Operand)
 |load (agg:Bool) (n:Nat) (x:Operand)
 |store (n:Nat) (x v:Operand)
 |mo (x:Operand)
 |bin (op:BinOp) (x y:Operand)
 |ji (neg:Bool) (k:wz) (x y:Operand)
 |eqs (neg:Bool) (ks:List rH) (x y:Operand)
 |un (op:UnOp) (x:Operand)
 |lM (k:IntKind) (x:Operand)
 |mG (x:Operand)
 |nh (t:TypeId) (x:Operand)
 |ng (fn:Fn) (first captured:List Operand)
 |slice (ah:Nat) (x:Operand) (lo hi:Option Operand)
 |aY (off:Nat) (x:Operand)
 |field (agg:Bool) (off n:Nat) (x:Operand)
 |fe (ah:Nat) (x i:Operand)
 |me (len ah:Nat) (x i:Operand)
 |idxs (x i:Operand)
 |extract (x:Operand) (i:Nat)
 |call (f:FuncId) (args:List Operand)
 |fD (f:Operand) (args:List Operand)
 |len (str:Bool) (x:Operand)
 |append (t:TypeId) (ah bytes:Nat) (z:List Value) (x y:Operand)
 |max2 (x y:Operand)
 |min2 (x y:Operand)
 |cu (op:Op) (ty:TypeId) (ti:List TI) (args:List Operand)
 |exts (op:Op) (ty:TypeId) (ti:List TI) (args:List Operand)
 |panic (x:Operand)
def over{α:Type}(l:List α)(o:Nat)(l':List α):List α:=l.take o++l'++l.drop (o+l'.length)
theorem A3{α:Type}(l:List α)(o:Nat)(l':List α)(h:o+l'.length≤l.length):(over l o l').length=l.length:=by
 simp[over];omega
theorem RL.over{M:Mem}{xs xs':List AV}{cs bO:List Value}(h:RL M xs cs)(k:RL M xs' bO)(o:Nat):RL M (over xs o xs') (over cs o bO):=by
 unfold Sx.over
 rw[k.1]
 exact RL.append (RL.append (h.take o) k) (h.drop _)
def lE(op:BinOp):Value→Value→(Value→Prop)→Prop
 | .int k a,.int k' b,K=>
  match op with
  | .add=>k=k'∧K (.int k (k.wrap (a+b)))
  | .sub=>k=k'∧K (.int k (k.wrap (a-b)))
  | .mul=>k=k'∧K (.int k (k.wrap (a * b)))
  | .quo=>k=k'∧b≠0∧K (.int k (k.wrap (a.tdiv b)))
  | .rem=>k=k'∧b≠0∧K (.int k (a.tmod b))
  | .eql=>k=k'∧K (.bool (decide (a=b)))
  | .neq=>k=k'∧K (.bool (!decide (a=b)))
  | .lss=>k=k'∧K (.bool (decide (a<b)))
  | .leq=>k=k'∧K (.bool (decide (a≤b)))
  | .gtr=>k=k'∧K (.bool (decide (b<a)))
  | .geq=>k=k'∧K (.bool (decide (b≤a)))
  | .and=>k=k'∧K (.int k (bits .and k a b))
  | .or=>k=k'∧K (.int k (bits .or k a b))
  | .xor=>k=k'∧K (.int k (bits .xor k a b))
  | .andNot=>k=k'∧K (.int k (bits .andNot k a b))
  | .shl=>0≤b∧b≤k.bits∧K (.int k (k.wrap (a * 2 ^ b.toNat)))
  | .shr=>0≤b∧b≤k.bits∧K (.int k (a / 2 ^ b.toNat))
 | .string a,.string b,K=>
  match op with
  | .add=>a.size+b.size≤9223372036854775807∧K (.string (a++b))
  | .eql=>K (.bool (decide (a=b)))
  | .neq=>K (.bool (!decide (a=b)))
  | .lss=>K (.bool (Op.bytesLess a.toList b.toList))
  | .leq=>K (.bool (Op.bytesLess a.toList b.toList || decide (a=b)))
  | .gtr=>K (.bool (!(Op.bytesLess a.toList b.toList || decide (a=b))))
  | .geq=>K (.bool (!Op.bytesLess a.toList b.toList))
  |_=>False
 |_,_,_=>False
def rS:wz→AV→AV→Option Bool
 | .bool,.v (.bool a),.v (.bool b)=>some (a == b)
 | .slice,.sl true _ _,.v (.slice none _ _)=>some false
 | .slice,.v (.slice none _ _),.sl true _ _=>some false
 | .slice,.own ..,.v (.slice none _ _)=>some false
 | .slice,.v (.slice none _ _),.own .. =>some false
 | .slice,.ms ..,.v (.slice none _ _)=>some false
 | .slice,.v (.slice none _ _),.ms .. =>some false
 | .slice,.v (.slice (some _) _ _),.v (.slice none _ _)=>some false
 | .slice,.v (.slice none _ _),.v (.slice (some _) _ _)=>some false
 | .slice,.v (.slice none _ _),.v (.slice none _ _)=>some true
 | .map,.v (.map (some _)),.v (.map none)=>some false
 | .map,.v (.map none),.v (.map (some _))=>some false
 | .map,.v (.map none),.v (.map none)=>some true
 | .func,.v (.func ..),.v .nilFunc=>some false
 | .func,.v .nilFunc,.v (.func ..)=>some false
 | .func,.v .nilFunc,.v .nilFunc=>some true
 | .ptr,.lp ..,.v (.pointer none)=>some false
 | .ptr,.v (.pointer none),.lp .. =>some false
 | .ptr,.v (.pointer (some _)),.v (.pointer none)=>some false
 | .ptr,.v (.pointer none),.v (.pointer (some _))=>some false
 | .ptr,.v (.pointer none),.v (.pointer none)=>some true
 |_,_,_=>none
def oB:rH→AV→AV→Option Bool
 | .int,.v (.int k a),.v (.int k' b)=>if k=k' then some (decide (a=b))else none
 | .str,.v (.string a),.v (.string b)=>some (decide (a=b))
 | .bool,.v (.bool a),.v (.bool b)=>some (a == b)
 |_,_,_=>none
def mI:List rH→List AV→List AV→Option Bool
 |[],[],[]=>some true
 |k::ks,x::xs,y::ys=>match oB k x y with
  |some b=>(mI ks xs ys).map (b && ·)
  |none=>none
 |_,_,_=>none
def EP:UnOp→Value→Option Value
 | .neg,.int k n=>some (.int k (k.wrap (0-n)))
 | .not,.bool b=>some (.bool !b)
 |_,_=>none
def aL(rg:ag):List Operand→List AV
 |[]=>[]
 |x::l=>ev rg x::aL rg l
def gS:List AV→Option (List Value)
 |[]=>some []
 | .v x::l=>(gS l).map (x::·)
 |_::_=>none
def bP:List AV→Option (List Value)
 |[]=>some []
 | .v x::l=>(bP l).map (x::·)
 | .lp _ b o::l=>(bP l).map (.pointer (some ⟨b,o,none⟩)::·)
 | .agg xs::l=>match gS xs with
  |some cs=>(bP l).map (.agg cs.toArray::·)
  |none=>none
 |_::_=>none
def pg:List AV→List (Nat×Nat×AV)→Option (List AV)
 |c,[]=>some c
 |c,(off,n,x)::rest=>match x.cells? with
  |some l=>if l.length=n∧off+n≤c.length then pg (over c off l) rest else none
  |none=>none
def lO(rg:ag):List (Nat×Nat×Operand)→List (Nat×Nat×AV)
 |[]=>[]
 |(o,n,x)::l=>(o,n,ev rg x)::lO rg l
def rowsOf(ah:Nat):List AV→Option (List (List AV))
 |[]=>some []
 |x::l=>match x.cells? with
  |some r=>if r.length=ah then(rowsOf ah l).map (r::·)else none
  |none=>none
def iy :Option AV→Option (Option Int)
 |none=>some none
 |some (.v (.int _ i))=>some (some i)
 |_=>none
def dD(b:UInt8):List AV:=[.v (.int .u8 b.toNat)]
def dG(ah:Nat):AV→Option (List (List AV))
 | .sl _ e rows=>if e=ah then some rows else none
 | .own e _ _ _ _ rows=>if e=ah then some rows else none
 | .v (.slice none 0 0)=>some []
 | .v (.string s)=>if ah=1 then some (s.data.toList.map dD)else none
 |_=>none
def s9(lt:Bool):Value→Value→Option Value
 | .int k x,.int k' y=>if k=k' then some (.int k (if lt then(if y<x then y else x)else(if y>x then y else x)))else none
 |_,_=>none
def TK:Next→Value→Prop
 | .value v,u=>u=v
 | .skip,u=>u=undef
 |_,_=>False
def fC(P:Program)[Glob P](op:Op)(ty:TypeId)(ti:List TI)(args:List Operand)(as:List AV)(σ:Store)(Q:AV→Store→Prop):Prop:=
 ei P op=ti→∀ (M:Mem) (w0:Base) (w:World) (ρ:Operand→Value),Inv P M w0 σ w→RL M as (args.map ρ)→
  ∃ nx w' M' x v σ',(execOp ρ ⟨none,op,ty, "",#[],none⟩).run P w= .ok nx w'∧TK nx v∧M.le M'∧Inv P M' w0 σ' w'∧R M' x v∧Q x σ'
structure jC(P:Program)[Glob P](op:Op)(ty:TypeId)(ti:List TI)(args:List Operand)(as:List AV)(r:AV):Prop where
 sp:∀ σ,fC P op ty ti args as σ fun x σ'=>x=r∧σ'=σ
theorem fC.mono{P:Program}[Glob P]{op:Op}{ty:TypeId}{ti:List TI}{args:List Operand}{as:List AV}{σ:Store}{Q Q':AV→Store→Prop}(h:fC P op ty ti args as σ Q)(k:∀ x σ',Q x σ'→Q' x σ'):fC P op ty ti args as σ Q':=
 fun bx M w0 w ρ hI hR=>let⟨nx,w',M',x,v,σ',h1,h2,h3,h4,h5,h6⟩:=h bx M w0 w ρ hI hR;⟨nx,w',M',x,v,σ',h1,h2,h3,h4,h5,k _ _ h6⟩
def aj(P:Program)[Glob P](cfg:Nat→Nat)(d:Option Nat)(rg:ag)(σ:Store)(K:AV→Store→Prop)(E:List PanicEntry→Store→Prop):ax→Prop
 | .mv x=>K (ev rg x) σ
 | .pick c a b=>match ev rg c with
  | .v (.bool t)=>K (if t then ev rg a else ev rg b) σ
  |_=>False
 | .box _ x=>match(ev rg x).cells? with
  |some l=>∀ b,K (.lp (d.getD 0) b 0) ((d.getD 0,b,.cells l)::σ)
  |none=>False
 | .alloc _ z=>∀ b,K (.lp (d.getD 0) b 0) ((d.getD 0,b,.cells (z.cells.toList.map .v))::σ)
 | .build z parts=>match pg (z.map .v) (lO rg parts)with
  |some l=>K (.agg l) σ
  |none=>False
 | .dF _ ah parts=>match rowsOf ah (aL rg parts)with
  |some rows=>rows.length≤1000000∧match cfg (d.getD 0)with
   |0=>K (.sl true ah rows) σ
   |1=>0<ah∧∀ b,K (.own ah (d.getD 0) b (rows.length * ah) (rows.length * ah) rows) ((d.getD 0,b,.tail (rows.length * ah) (rows.length * ah))::σ)
   |3=>K (.fl ah rows) σ
   |_=>∀ b,K (.ms (d.getD 0) b 0 rows.length rows.length) ((d.getD 0,b,.cells rows.flatten)::σ)
  |none=>False
 | .load agg n x=>match ev rg x with
  | .lp t b o=>match aV σ t with
   |some (b',.cells l)=>b=b'∧if agg then o+n≤l.length∧K (.agg ((l.drop o).take n)) σ else match l[o]? with
    |some y=>K y σ
    |none=>False
   |_=>False
  | .pc l=>if agg then n≤l.length∧K (.agg (l.take n)) σ else match l[0]? with
    |some y=>K y σ
    |none=>False
  | .v (.pointer (some ⟨g,0,none⟩))=>match Glob.av P g with
   |some l=>if agg then n≤l.length∧K (.agg (l.take n)) σ else match l[0]? with
    |some y=>K y σ
    |none=>False
   |none=>False
  |_=>False
 | .store n x y=>match ev rg x,(ev rg y).cells? with
  | .lp t b o,some l'=>match aV σ t with
   |some (b',.cells l)=>b=b'∧l'.length=n∧l'.all AV.one=true∧o+n≤l.length∧K (.v undef) (du σ t b (.cells (over l o l')))
   |_=>False
  |_,_=>False
 | .mo x=>match ev rg x with
  | .v (.pointer (some a))=>K (.v (.pointer (some a))) σ
  | .lp t b o=>K (.lp t b o) σ
  | .pc l=>K (.pc l) σ
  | .v (.func (.func f) a c)=>K (.v (.func (.func f) a c)) σ
  | .cl f a c=>K (.cl f a c) σ
  |_=>False
 | .bin op x y=>match ev rg x,ev rg y with
  | .v a,.v b=>lE op a b fun r=>K (.v r) σ
  |_,_=>False
 | .ji neg k x y=>match rS k (ev rg x) (ev rg y)with
  |some b=>K (.v (.bool (b ^^ neg))) σ
  |none=>False
 | .eqs neg ks x y=>match(ev rg x).iJ,(ev rg y).iJ with
  |some xs,some ys=>match mI ks xs ys with
   |some b=>K (.v (.bool (b ^^ neg))) σ
   |none=>False
  |_,_=>False
 | .un op x=>match ev rg x with
  | .v a=>match EP op a with
   |some r=>K (.v r) σ
   |none=>False
  |_=>False
 | .lM k x=>match ev rg x with
  | .v (.int _ n)=>K (.v (.int k (k.wrap n))) σ
  |_=>False
 | .mG x=>match ev rg x with
  | .v (.string s)=>K (.v (.string s)) σ
  |_=>False
 | .nh t x=>K (.dz t (ev rg x)) σ
 | .ng fn first captured=>match bP (aL rg first),bP (aL rg captured)with
  |some a,some c=>K (.v (.func fn a.toArray c.toArray)) σ
  |_,_=>match fn with
   | .func f=>K (.cl f (aL rg first) (aL rg captured)) σ
   |_=>False
 | .slice ah x lo hi=>match iy (lo.map (ev rg)),iy (hi.map (ev rg))with
  |some lo,some hi=>match ev rg x with
   | .sl nn e rows=>e=ah∧0≤lo.getD 0∧lo.getD 0≤hi.getD rows.length∧hi.getD rows.length≤rows.length∧K (.sl nn ah ((rows.take (hi.getD rows.length).toNat).drop (lo.getD 0).toNat)) σ
   | .own e tg b u c rows=>e=ah∧0≤lo.getD 0∧lo.getD 0≤hi.getD rows.length∧hi.getD rows.length≤rows.length∧
     K (if hi.isNone then .own ah tg b u c (rows.drop (lo.getD 0).toNat)else .sl true ah ((rows.take (hi.getD rows.length).toNat).drop (lo.getD 0).toNat)) σ
   | .v (.slice none 0 0)=>lo.getD 0=0∧hi.getD 0=0∧K (.v (.slice none 0 0)) σ
   |_=>False
  |_,_=>False
 | .aY off x=>match ev rg x with
  | .lp t b o=>K (.lp t b (o+off)) σ
  | .pc l=>K (.pc (l.drop off)) σ
  |_=>False
 | .field agg off n x=>match(ev rg x).iJ with
  |some l=>off+n≤l.length∧if agg then K (.agg ((l.drop off).take n)) σ else match l[off]? with
   |some y=>K y σ
   |none=>False
  |none=>False
 | .fe ah x i=>match ev rg i with
  | .v (.int _ i)=>match ev rg x with
   | .sl _ e rows=>e=ah∧0≤i∧i<rows.length∧K (.pc (rows.getD i.toNat [])) σ
   | .own e _ _ _ _ rows=>e=ah∧0≤i∧i<rows.length∧K (.pc (rows.getD i.toNat [])) σ
   | .ms t b o n _=>0≤i∧i<n∧K (.lp t b (o+i.toNat * ah)) σ
   |_=>False
  |_=>False
 | .me n ah x i=>match ev rg i with
  | .v (.int _ i)=>match ev rg x with
   | .lp t b o=>0≤i∧i<n∧K (.lp t b (o+i.toNat * ah)) σ
   | .pc l=>0≤i∧i<n∧K (.pc (l.drop (i.toNat * ah))) σ
   | .v (.pointer (some ⟨g,o,none⟩))=>∃ l,Glob.av P g=some l∧o=0∧0≤i∧i<n∧K (.pc (l.drop (i.toNat * ah))) σ
   |_=>False
  |_=>False
 | .idxs x i=>match ev rg i,ev rg x with
  | .v (.int _ i),.v (.string s)=>∃ h:0≤i∧i<s.size,K (.v (.int .u8 (s[i.toNat]'(by omega)).toNat)) σ
  |_,_=>False
 | .extract x i=>match ev rg x with
  | .bo xs=>match xs[i]? with
   |some y=>K y σ
   |none=>False
  | .v (.tuple vs)=>match vs[i]? with
   |some y=>K (.v y) σ
   |none=>False
  |_=>False
 | .call f args=>oT P f (aL rg args) σ K E
 | .fD f args=>match ev rg f with
  | .v (.func (.func f) a c)=>gR P f=true∧oT P f (a.toList.map .v++aL rg args++c.toList.map .v) σ K E
  | .cl f a c=>gR P f=true∧oT P f (a++aL rg args++c) σ K E
  |_=>False
 | .len true x=>match ev rg x with
  | .v (.string s)=>K (.v (.int .i64 s.size)) σ
  |_=>False
 | .len false x=>match ev rg x with
  | .v (.slice _ n _)=>K (.v (.int .i64 n)) σ
  | .ms _ _ _ n _=>K (.v (.int .i64 n)) σ
  | .sl _ _ rows=>(rows.length≤maxLen→K (.v (.int .i64 rows.length)) σ)
  | .own _ _ _ _ _ rows=>(rows.length≤maxLen→K (.v (.int .i64 rows.length)) σ)
  |_=>False
 | .append _ ah bytes _ x y=>match ev rg x,dG ah (ev rg y)with
  | .v (.slice none 0 0),some rows'=>rows'.length * bytes≤35184372088832∧
    (rows'=[]→K (.v (.slice none 0 0)) σ)∧(rows'≠[]→∀ b u c,u=rows'.length * ah→K (.own ah (d.getD 0) b u c rows') ((d.getD 0,b,.tail u c)::σ))
  | .own e tg b u c rows,some rows'=>e=ah∧aV σ tg=some (b,.tail u c)∧(rows.length+rows'.length) * bytes≤35184372088832∧rows'.all (fun r=>r.all AV.one)=true∧
    ∀ b' u' c',(u=rows.length * ah→u'=(rows.length+rows'.length) * ah)→K (.own ah tg b' u' c' (rows++rows')) (du σ tg b' (.tail u' c'))
  | .fl e rows,some rows'=>e=ah∧(rows.length+rows'.length) * bytes≤35184372088832∧(rows'=[]→K (.fl ah rows) σ)∧(rows'≠[]→
    ∀ b u c,K (.own ah (d.getD 0) b u c (rows++rows')) ((d.getD 0,b,.tail u c)::σ))
  |_,_=>False
 | .max2 x y=>match ev rg x,ev rg y with
  | .v a,.v b=>match s9 false a b with
   |some r=>K (.v r) σ
   |none=>False
  |_,_=>False
 | .min2 x y=>match ev rg x,ev rg y with
  | .v a,.v b=>match s9 true a b with
   |some r=>K (.v r) σ
   |none=>False
  |_,_=>False
 | .cu op ty ti args=>fC P op ty ti args (aL rg args) σ K
 | .exts op ty ti args=>fC P op ty ti args (aL rg args) σ K
 | .panic x=>match ev rg x with
  | .dz t y=>match bP [y]with
   |some [v]=>E [{v:= .iface t v,recovered:=false}] σ
   |_=>False
  |_=>False
end Go.Sx
