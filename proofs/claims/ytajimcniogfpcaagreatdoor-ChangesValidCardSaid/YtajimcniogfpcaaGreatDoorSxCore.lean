/-
  The layer Sx, first part: abstract values, what they stand for in a world, the invariant of a walk. Over any program.
-/
import Derived.Orders
import Derived.WalkKit
set_option linter.unusedVariables false
set_option linter.unusedSimpArgs false
set_option linter.unusedSectionVars false
abbrev Z9:= @List.length_append
abbrev Z8:= @List.length_cons
abbrev Z7:= @Option.map_eq_some_iff
abbrev Z6:= @Bool.and_eq_true
abbrev Z5:= @if_neg
abbrev Z4:= @List.length_map
abbrev Z3:= @List.cons.injEq
abbrev Z2:= @Nat.eq_of_beq_eq_true
abbrev Z1:= @Option.some.injEq
abbrev Z0:= @List.length_nil
abbrev ZY:= @List.getElem?_eq_getElem
abbrev ZX:= @Array.getElem?_eq_some_iff
abbrev ZW:= @if_pos
abbrev ZV:= @Bool.false_eq_true
abbrev ZU:= @List.getD_eq_getElem?_getD
abbrev ZT:= @List.mem_cons
abbrev ZS:= @List.size_toArray
abbrev ZR:= @Nat.le_of_ble_eq_true
abbrev ZQ:= @List.length_take
abbrev ZP:= @Array.getD_eq_getD_getElem?
abbrev ZO:= @List.mem_cons_of_mem
abbrev ZN:= @decide_eq_true_eq
abbrev ZM:= @Nat.le_refl
abbrev ZL:= @Nat.zero_le
abbrev ZK:= @List.getElem?_eq_some_iff
abbrev ZJ:= @List.mem_append
abbrev ZI:= @List.mem_append_left
abbrev ZH:= @List.cons_append
abbrev ZG:= @Nat.le_trans
abbrev ZF:= @List.take_succ_eq_append_getElem
abbrev ZE:= @List.map_cons
abbrev ZD:= @Option.map_some
abbrev ZC:= @List.mem_cons_self
abbrev ZB:= @List.all_eq_true
abbrev ZA:= @Nat.zero_add
abbrev Zz:= @List.setIfInBounds_toArray
abbrev Zy:= @Array.getElem?_eq_getElem
abbrev Zx:= @List.eq_nil_of_length_eq_zero
abbrev Zv:= @Array.length_toList
abbrev Zu:= @Array.all_eq_true_iff_forall_mem
abbrev Zt:= @List.append_assoc
abbrev Zq:= @List.take_of_length_le
abbrev Zp:= @List.mem_append_right
abbrev Zn:= @and_true
abbrev Zm:= @List.mem_singleton
abbrev Zl:= @List.nil_append
abbrev Zk:= @Option.getD_some
abbrev Zj:= @List.getElem_map
abbrev Zi:= @List.set_cons_zero
abbrev Zh:= @List.take_append_drop
abbrev Zg:= @List.set_cons_succ
abbrev Zf:= @List.getElem_of_mem
abbrev Ze:= @congrArg
abbrev Zd:= @decide_eq_false
abbrev Zc:= @List.getElem_mem
abbrev Zb:= @Array.getElem?_setIfInBounds
abbrev Za:= @Array.getElem?_toList
abbrev Y9:= @List.mem_map
abbrev Y8:= @if_false
abbrev Y7:= @List.map_append
abbrev Y6:= @cond_true
abbrev Y5:= @List.mem_filter
abbrev Y4:= @List.map_nil
abbrev Y3:= @Prod.mk.injEq
abbrev Y2:= @if_true
abbrev Y1:= @List.take_append_of_le_length
abbrev Y0:= @Nat.mul_le_mul_right
abbrev YZ:= @List.length_singleton
abbrev YX:= @List.append_nil
abbrev YW:= @List.take_left'
abbrev YV:= @List.nodup_cons
abbrev YU:= @List.getElem?_take
abbrev YT:= @List.mem_range
abbrev YS:= @List.mem_of_getElem?
abbrev YR:= @decide_eq_true
abbrev YQ:= @List.mem_iff_getElem
abbrev YP:= @Array.getElem?_setIfInBounds_ne
abbrev YO:= @Nat.lt_or_ge
abbrev YN:= @List.length_drop
abbrev YM:= @Bool.or_eq_true
abbrev YL:= @Nat.beq_refl
abbrev YK:= @Bool.not_eq_true'
abbrev YJ:= @Bool.eq_iff_iff
abbrev YI:= @Nat.add_mul
abbrev YH:= @List.getElem?_append_left
abbrev YG:= @List.getElem_cons_zero
abbrev YF:= @List.getElem?_drop
abbrev YE:= @List.mem_map_of_mem
abbrev YD:= @cond_false
abbrev YC:= @Nat.blt_eq
abbrev YB:= @Array.ext'
abbrev YA:= @Option.some.inj
abbrev Yz:= @List.flatten_cons
abbrev Yy:= @Decidable.not_not
abbrev Yx:= @List.mem_of_mem_drop
abbrev Yw:= @List.pairwise_iff_getElem
abbrev Yv:= @List.getElem_append_right
abbrev Yu:= @Nat.lt_of_lt_of_le
abbrev Yt:= @Option.isSome_iff_exists
abbrev Ys:= @List.not_mem_nil
abbrev Yr:= @Nat.add_zero
abbrev Yq:= @List.getElem?_map
abbrev Yp:= @List.pairwise_cons
abbrev Yo:= @List.find?_eq_some_iff_getElem
abbrev Yn:= @List.filter_cons
abbrev Ym:= @List.any_eq_true
abbrev Yl:= @Array.all_toList
abbrev Yk:= @List.getElem_take
abbrev Yj:= @List.getElem_append_left
abbrev Yi:= @List.map_map
abbrev Yh:= @List.mem_of_mem_take
abbrev Yg:= @List.drop_length
abbrev Yf:= @true_and
abbrev Ye:= @of_decide_eq_true
abbrev Yd:= @List.nodup_append
abbrev Yc:= @List.getElem_cons_drop
abbrev Yb:= @List.filter_eq_nil_iff
abbrev Ya:= @List.getElem?_toArray
abbrev X9:= @Nat.lt_succ_self
abbrev X8:= @Nat.lt_or_eq_of_le
abbrev X7:= @List.ext_getElem
abbrev X6:= @Bool.not_eq_true
abbrev X5:= @Array.getElem?_setIfInBounds_self_of_lt
abbrev X4:= @Nat.le_of_lt_succ
abbrev X3:= @List.length_eq_zero_iff
abbrev X2:= @List.getElem_drop
abbrev X1:= @Array.getElem_mem
abbrev X0:= @Nat.min_eq_left
abbrev XZ:= @List.getElem_cons_succ
abbrev XY:= @Nat.mul_one
abbrev XW:= @Nat.add_assoc
abbrev XU:= @List.map_take
abbrev XQ:= @List.filter_append
abbrev XP:= @List.append_of_mem
abbrev XN:= @Array.getElem?_append_left
abbrev XM:= @List.cons_prefix_cons
abbrev XL:= @Array.getElem?_modify
abbrev XK:= @List.mem_of_find?_eq_some
abbrev XJ:= @List.find?_some
abbrev XI:= @Nat.succ_mul
abbrev XH:= @Nat.mul_comm
abbrev XG:= @Nat.lt_trichotomy
abbrev XF:= @Int.toNat_natCast
abbrev XD:= @List.take_succ_cons
abbrev XC:= @List.map_eq_nil_iff
abbrev XB:= @List.length_pos_iff
abbrev XA:= @List.take_length
abbrev Xz:= @Array.any_toList
abbrev Xy:= @exists_false
abbrev Xx:= @exists_const
abbrev Xw:= @List.find?_eq_none
abbrev Xv:= @List.drop_of_length_le
abbrev Xu:= @List.map_drop
abbrev Xt:= @List.length_filter_le
abbrev Xr:= @Array.size_append
abbrev Xq:= @Array.any_eq_true
abbrev Xp:= @List.range_eq_range'
abbrev Xo:= @List.pairwise_append
abbrev Xn:= @List.nodup_nil
abbrev Xm:= @List.getElem?_append_right
abbrev Xl:= @Bool.not_false
abbrev Xk:= @Option.getD_none
abbrev Xj:= @Nat.mod_eq_of_lt
abbrev Xi:= @List.mem_flatMap
abbrev Xh:= @List.getD_cons_succ
abbrev Xg:= @List.mem_of_elem_eq_true
abbrev Xf:= @Bool.eq_false_or_eq_true
abbrev Xe:= @List.length_set
abbrev Xd:= @List.foldl_cons
abbrev Xc:= @Nat.eq_or_lt_of_le
abbrev Xb:= @List.getElem_range
abbrev Xa:= @false_and
abbrev W9:= @Nat.min_def
abbrev W8:= @or_false
abbrev W7:= @List.pairwise_map
abbrev W6:= @List.drop_eq_nil_of_le
abbrev WZ:= @Nat.ble_eq_true_of_le
abbrev WY:= @List.length_replicate
namespace Go.Sx
inductive AV where
 |v (x:Value)
 |any
 |agg (xs:List AV)
 |aP (xs:List AV)
 |sl (nn:Bool) (ag:Nat) (rows:List (List AV))
 |own (ag t b u c:Nat) (rows:List (List AV))
 |ms (t b o n c:Nat)
 |pc (l:List AV)
 |dN (t:TypeId) (x:AV)
 |lp (t b o:Nat)
 |bH (t b:Nat)
 |ai (k:IntKind)
 |cl (f:FuncId) (a c:List AV)
 |fl (ag:Nat) (rows:List (List AV))
deriving Inhabited
abbrev Mem:=Nat→Nat→Option Value
def Mem.le(M M':Mem):Prop:=∀ b o v,M b o=some v→M' b o=some v
theorem Mem.le.refl(M:Mem):M.le M:=fun _ _ _ h=>h
theorem Mem.le.trans{A B C:Mem}(h:A.le B)(k:B.le C):A.le C:=fun b o v x=>k b o v (h b o v x)
inductive R(M:Mem):AV→Value→Prop
 |v (x:Value):R M (.v x) x
 |any (x:Value):R M .any x
 |agg (xs:List AV) (cs:List Value) (hl:xs.length=cs.length) (h:∀ i (h1:i<xs.length) (h2:i<cs.length),R M xs[i] cs[i]):R M (.agg xs) (.agg cs.toArray)
 |aP (xs:List AV) (cs:List Value) (hl:xs.length=cs.length) (h:∀ i (h1:i<xs.length) (h2:i<cs.length),R M xs[i] cs[i]):R M (.aP xs) (.tuple cs.toArray)
 |nil (nn:Bool) (ag:Nat) (a:Option Addr) (h:nn=true→a.isSome=true):R M (.sl nn ag []) (.slice a 0 0)
 |sl (nn:Bool) (ag:Nat) (rows:List (List AV)) (b off cap:Nat) (cs:Nat→Value) (aY:∀ i (h:i<rows.length),rows[i].length=ag)
   (hM:∀ k,k<rows.length * ag→M b (off+k)=some (cs k))
   (hR:∀ i (h:i<rows.length) j (h2:j<rows[i].length),R M rows[i][j] (cs (i * ag+j)))
   (hc:rows.length≤cap) (hm:cap≤maxLen):R M (.sl nn ag rows) (.slice (some ⟨b,off,none⟩) rows.length cap)
 |ms (t b o n c:Nat):R M (.ms t b o n c) (.slice (some ⟨b,o,none⟩) n c)
 |own (ag t b u c:Nat) (rows:List (List AV)) (off cap:Nat) (cs:Nat→Value) (aY:∀ i (h:i<rows.length),rows[i].length=ag)
   (hM:∀ k,k<rows.length * ag→M b (off+k)=some (cs k))
   (hR:∀ i (h:i<rows.length) j (h2:j<rows[i].length),R M rows[i][j] (cs (i * ag+j)))
   (hc:rows.length≤cap) (hm:cap≤maxLen) (hu:cap=0∨(off+rows.length * ag=u∧off+cap * ag≤c)) (he:0<ag):R M (.own ag t b u c rows) (.slice (some ⟨b,off,none⟩) rows.length cap)
 |pc (l:List AV) (b off:Nat) (cs:Nat→Value) (hM:∀ k,k<l.length→M b (off+k)=some (cs k))
   (hR:∀ k (h:k<l.length),R M l[k] (cs k)):R M (.pc l) (.pointer (some ⟨b,off,none⟩))
 |dN (t:TypeId) (x:AV) (v:Value) (h:R M x v):R M (.dN t x) (.iface t v)
 |lp (t b o:Nat):R M (.lp t b o) (.pointer (some ⟨b,o,none⟩))
 |bH (t b:Nat):R M (.bH t b) (.map (some b))
 |ai (k:IntKind) (n:Int):R M (.ai k) (.int k n)
 |cl (f:FuncId) (a c:List AV) (va vc:List Value) (hl:a.length=va.length) (fJ:c.length=vc.length) (h:∀ i (h1:i<a.length) (h2:i<va.length),R M a[i] va[i])
   (h':∀ i (h1:i<c.length) (h2:i<vc.length),R M c[i] vc[i]):R M (.cl f a c) (.func (.func f) va.toArray vc.toArray)
 |fl (ag:Nat) (rows:List (List AV)) (b off:Nat) (cs:Nat→Value) (aY:∀ i (h:i<rows.length),rows[i].length=ag)
   (hM:∀ k,k<rows.length * ag→M b (off+k)=some (cs k))
   (hR:∀ i (h:i<rows.length) j (h2:j<rows[i].length),R M rows[i][j] (cs (i * ag+j)))
   (hm:rows.length≤maxLen):R M (.fl ag rows) (.slice (some ⟨b,off,none⟩) rows.length rows.length)
theorem R.mono{M M':Mem}(hM:M.le M'){x:AV}{v:Value}(h:R M x v):R M' x v:=by
 induction h with
 |v x=>exact .v x
 |any x=>exact .any x
 |agg xs cs hl _ ih=>exact .agg xs cs hl ih
 |aP xs cs hl _ ih=>exact .aP xs cs hl ih
 |nil nn ag a h=>exact .nil nn ag a h
 |sl nn ag rows b off cap cs aY hm _ hc hx ih=>exact .sl nn ag rows b off cap cs aY (fun k hk=>hM _ _ _ (hm k hk)) ih hc hx
 |ms t b o n c=>exact .ms t b o n c
 |own ag t b u c rows off cap cs aY hm _ hc hx hu he ih=>exact .own ag t b u c rows off cap cs aY (fun k hk=>hM _ _ _ (hm k hk)) ih hc hx hu he
 |pc l b off cs hm _ ih=>exact .pc l b off cs (fun k hk=>hM _ _ _ (hm k hk)) ih
 |dN t x v _ ih=>exact .dN t x v ih
 |lp t b o=>exact .lp t b o
 |bH t b=>exact .bH t b
 |ai k n=>exact .ai k n
 |cl f a c va vc hl fJ _ _ ih lj=>exact .cl f a c va vc hl fJ ih lj
 |fl ag rows b off cs aY hm _ hx ih=>exact .fl ag rows b off cs aY (fun k hk=>hM _ _ _ (hm k hk)) ih hx
def RL(M:Mem)(xs:List AV)(cs:List Value):Prop:=xs.length=cs.length∧∀ i (h1:i<xs.length) (h2:i<cs.length),R M xs[i] cs[i]
theorem RL.mono{M M':Mem}(hM:M.le M'){xs:List AV}{cs:List Value}(h:RL M xs cs):RL M' xs cs:=⟨h.1,fun i a b=>(h.2 i a b).mono hM⟩
theorem RL.nil{M:Mem}:RL M [] []:=⟨rfl,fun i h=>absurd h (by simp)⟩
theorem RL.cons{M:Mem}{x:AV}{v:Value}{xs:List AV}{cs:List Value}(h:R M x v)(t:RL M xs cs):RL M (x::xs) (v::cs):=by
 refine⟨by simp[t.1],fun i h1 h2=> ?_⟩
 cases i with
 |zero=>exact h
 |succ i=>simpa using t.2 i (by grind) (by grind)
theorem RL.bg{M:Mem}{x:AV}{xs:List AV}{cs:List Value}(h:RL M (x::xs) cs):∃ v bP,cs=v::bP∧R M x v∧RL M xs bP:=by
 obtain⟨hl,hr⟩:=h
 cases cs with
 |nil=>grind
 |cons v bP=>
  exact⟨v,bP,rfl,hr 0 (by simp) (by simp),by grind,fun i h1 h2=>hr (i+1) (by grind) (by grind)⟩
theorem RL.qU{M:Mem}{cs:List Value}(h:RL M [] cs):cs=[]:=by
 have:=h.1;simp at this;exact Zx this.symm
theorem RL.append{M:Mem}{xs ys:List AV}{cs ds:List Value}(h:RL M xs cs)(k:RL M ys ds):RL M (xs++ys) (cs++ds):=by
 induction xs generalizing cs with
 |nil=>obtain rfl:=h.qU;grind
 |cons x xs ih=>obtain⟨v,bP,rfl,a,b⟩:=h.bg;exact RL.cons a (ih b)
theorem RL.get{M:Mem}{xs:List AV}{cs:List Value}(h:RL M xs cs){i:Nat}{x:AV}(hx:xs[i]? =some x):∃ v,cs[i]? =some v∧R M x v:=by
 obtain⟨hi,rfl⟩:=ZK.1 hx
 have h2:i<cs.length:=h.1 ▸ hi
 exact⟨cs[i],ZY h2,h.2 i hi h2⟩
theorem RL.drop{M:Mem}{xs:List AV}{cs:List Value}(h:RL M xs cs)(n:Nat):RL M (xs.drop n) (cs.drop n):=by
 refine⟨by simp[h.1],fun i h1 h2=> ?_⟩
 simp
 exact h.2 _ _ _
theorem RL.take{M:Mem}{xs:List AV}{cs:List Value}(h:RL M xs cs)(n:Nat):RL M (xs.take n) (cs.take n):=by
 refine⟨by simp[h.1],fun i h1 h2=> ?_⟩
 simp
 exact h.2 _ _ _
theorem RL.set{M:Mem}{xs:List AV}{cs:List Value}(h:RL M xs cs)(n:Nat){x:AV}{v:Value}(hx:R M x v):RL M (xs.set n x) (cs.set n v):=by
 refine⟨by simp[h.1],fun i h1 h2=> ?_⟩
 simp only[List.getElem_set]
 split
 ·exact hx
 ·exact h.2 _ _ _
theorem RL.exact{M:Mem}(cs:List Value):RL M (cs.map .v) cs:=⟨by simp,fun i h1 h2=>by simpa using R.v _⟩
theorem R.np{M:Mem}{xs:List AV}{v:Value}(h:R M (.agg xs) v):∃ cs,v= .agg cs.toArray∧RL M xs cs:=by
 cases h with
 |agg _ cs hl hr=>exact⟨cs,rfl,hl,hr⟩
theorem R.su{M:Mem}{xs:List AV}{cs:List Value}(h:RL M xs cs):R M (.agg xs) (.agg cs.toArray):= .agg xs cs h.1 h.2
theorem R.Tt{M:Mem}{xs:List AV}{v:Value}(h:R M (.aP xs) v):∃ cs,v= .tuple cs.toArray∧RL M xs cs:=by
 cases h with
 |aP _ cs hl hr=>exact⟨cs,rfl,hl,hr⟩
theorem R.vh{M:Mem}{xs:List AV}{cs:List Value}(h:RL M xs cs):R M (.aP xs) (.tuple cs.toArray):= .aP xs cs h.1 h.2
theorem R.ay{M:Mem}{x v:Value}(h:R M (.v x) v):v=x:=by cases h;rfl
theorem R.vu{M:Mem}{l:List AV}{v:Value}(h:R M (.pc l) v):∃ b off,∃ cs:Nat→Value,v= .pointer (some ⟨b,off,none⟩)∧(∀ k,k<l.length→M b (off+k)=some (cs k))∧∀ k (h:k<l.length),R M l[k] (cs k):=by
 cases h with
 |pc _ b off cs h1 h2=>exact⟨b,off,cs,rfl,h1,h2⟩
structure Rows(M:Mem)(b off ag:Nat)(rows:List (List AV))(cs:Nat→Value):Prop where
 size:∀ i (h:i<rows.length),rows[i].length=ag
 mem:∀ k,k<rows.length * ag→M b (off+k)=some (cs k)
 rel:∀ i (h:i<rows.length) j (h2:j<rows[i].length),R M rows[i][j] (cs (i * ag+j))
theorem R.om{M:Mem}{nn:Bool}{ag:Nat}{rows:List (List AV)}{v:Value}(h:R M (.sl nn ag rows) v):(∃ a:Option Addr,(nn=true→a.isSome=true)∧rows=[]∧v= .slice a 0 0)∨
  ∃ b off cap cs,v= .slice (some ⟨b,off,none⟩) rows.length cap∧Rows M b off ag rows cs∧rows.length≤cap∧cap≤maxLen:=by
 cases h with
 |nil _ _ a h=>grind
 |sl _ _ _ b off cap cs h1 h2 h3 h4 h5=>exact .inr ⟨b,off,cap,cs,rfl,⟨h1,h2,h3⟩,h4,h5⟩
theorem R.oc{M:Mem}{b off cap ag:Nat}{cs:Nat→Value}{rows:List (List AV)}(h:Rows M b off ag rows cs)(h4:rows.length≤cap)(h5:cap≤maxLen)(nn:Bool):R M (.sl nn ag rows) (.slice (some ⟨b,off,none⟩) rows.length cap):=
 .sl nn ag rows b off cap cs h.size h.mem h.rel h4 h5
theorem R.qG{M:Mem}{t b o n c:Nat}{v:Value}(h:R M (.ms t b o n c) v):v= .slice (some ⟨b,o,none⟩) n c:=by cases h;rfl
theorem R.qH{M:Mem}{ag t b u c:Nat}{rows:List (List AV)}{v:Value}(h:R M (.own ag t b u c rows) v):
  ∃ off cap cs,v= .slice (some ⟨b,off,none⟩) rows.length cap∧Rows M b off ag rows cs∧rows.length≤cap∧cap≤maxLen∧(cap=0∨(off+rows.length * ag=u∧off+cap * ag≤c))∧0<ag:=by
 cases h with
 |own _ _ _ _ _ _ off cap cs h1 h2 h3 h4 h5 h6 h8=>exact⟨off,cap,cs,rfl,⟨h1,h2,h3⟩,h4,h5,h6,h8⟩
theorem R.sF{M:Mem}{t b u c off cap ag:Nat}{cs:Nat→Value}{rows:List (List AV)}(h:Rows M b off ag rows cs)(h4:rows.length≤cap)(h5:cap≤maxLen)(h6:cap=0∨(off+rows.length * ag=u∧off+cap * ag≤c))(h8:0<ag):
  R M (.own ag t b u c rows) (.slice (some ⟨b,off,none⟩) rows.length cap):= .own ag t b u c rows off cap cs h.size h.mem h.rel h4 h5 h6 h8
theorem R.air{M:Mem}{ag t b u c:Nat}{rows:List (List AV)}{v:Value}(h:R M (.own ag t b u c rows) v)(nn:Bool):R M (.sl nn ag rows) v:=by
 obtain⟨off,cap,cs,rfl,hr,h4,h5,_⟩:=h.qH
 exact R.oc hr h4 h5 nn
theorem R.Tp{M:Mem}{ag:Nat}{rows:List (List AV)}{v:Value}(h:R M (.fl ag rows) v):∃ b off cs,v= .slice (some ⟨b,off,none⟩) rows.length rows.length∧Rows M b off ag rows cs∧rows.length≤maxLen:=by
 cases h with
 |fl _ _ b off cs h1 h2 h3 h4=>exact⟨b,off,cs,rfl,⟨h1,h2,h3⟩,h4⟩
theorem R.ahH{M:Mem}{b off ag:Nat}{cs:Nat→Value}{rows:List (List AV)}(h:Rows M b off ag rows cs)(h5:rows.length≤maxLen):R M (.fl ag rows) (.slice (some ⟨b,off,none⟩) rows.length rows.length):=
 .fl ag rows b off cs h.size h.mem h.rel h5
theorem R.Jl{M:Mem}{ag:Nat}{rows:List (List AV)}{v:Value}(h:R M (.fl ag rows) v)(nn:Bool):R M (.sl nn ag rows) v:=by
 obtain⟨b,off,cs,rfl,hr,h5⟩:=h.Tp
 exact R.oc hr (ZM _) h5 nn
theorem R.akn{M:Mem}{ag:Nat}{rows:List (List AV)}{v:Value}(h:R M (.sl true ag rows) v):R M (.sl false ag rows) v:=by
 rcases h.om with⟨a,_,rfl,rfl⟩|⟨b,off,cap,cs,rfl,hr,h4,h5⟩
 ·exact .nil _ _ _ (fun h=>nomatch h)
 ·exact R.oc hr h4 h5 _
theorem R.pB{M:Mem}{t b o:Nat}{v:Value}(h:R M (.lp t b o) v):v= .pointer (some ⟨b,o,none⟩):=by cases h;rfl
theorem R.qF{M:Mem}{t b:Nat}{v:Value}(h:R M (.bH t b) v):v= .map (some b):=by cases h;rfl
theorem R.ah4{M:Mem}{k:IntKind}{v:Value}(h:R M (.ai k) v):∃ n,v= .int k n:=by cases h with|ai _ n=>exact⟨n,rfl⟩
theorem R.LG{M:Mem}{f:FuncId}{a c:List AV}{v:Value}(h:R M (.cl f a c) v):∃ va vc:List Value,v= .func (.func f) va.toArray vc.toArray∧RL M a va∧RL M c vc:=by
 cases h with
 |cl _ _ _ va vc hl fJ h h'=>exact⟨va,vc,rfl,⟨hl,h⟩,⟨fJ,h'⟩⟩
theorem R.ahG{M:Mem}{f:FuncId}{a c:List AV}{va vc:List Value}(h:RL M a va)(h':RL M c vc):R M (.cl f a c) (.func (.func f) va.toArray vc.toArray):= .cl f a c va vc h.1 h'.1 h.2 h'.2
theorem R.Tq{M:Mem}{t:TypeId}{x:AV}{v:Value}(h:R M (.dN t x) v):∃ u,v= .iface t u∧R M x u:=by
 cases h with
 |dN _ _ u h=>exact⟨u,rfl,h⟩
theorem ahM{i n ag j:Nat}(hi:i<n)(hj:j<ag):i * ag+j<n * ag:=by
 have:(i+1) * ag≤n * ag:=Y0 _ hi
 rw[XI]at this
 omega
theorem Rows.mono{M M':Mem}(hM:M.le M'){b off ag:Nat}{rows:List (List AV)}{cs:Nat→Value}(h:Rows M b off ag rows cs):Rows M' b off ag rows cs:=
 ⟨h.size,fun k hk=>hM _ _ _ (h.mem k hk),fun i hi j hj=>(h.rel i hi j hj).mono hM⟩
theorem Rows.sub{M:Mem}{b off ag:Nat}{rows:List (List AV)}{cs:Nat→Value}(h:Rows M b off ag rows cs)(lo hi:Nat)(hh:hi≤rows.length)(hl:lo≤hi):
  Rows M b (off+lo * ag) ag ((rows.take hi).drop lo) (fun k=>cs (lo * ag+k)):=by
 have hlen:((rows.take hi).drop lo).length=hi-lo:=by grind
 refine⟨fun i h1=> ?_,fun k hk=> ?_,fun i h1 j h2=> ?_⟩
 ·simp
  exact h.size _ _
 ·rw[hlen]at hk
  have hb:lo * ag+k<rows.length * ag:=by
   have h1:(hi-lo) * ag+lo * ag=hi * ag:=by rw[← YI];grind
   have h2:hi * ag≤rows.length * ag:=Y0 _ hh
   omega
  rw[XW]
  exact h.mem _ hb
 ·have h3:lo+i<rows.length:=by grind
  have hj:j<rows[lo+i].length:=by grind
  have:=h.rel (lo+i) h3 j hj
  grind
theorem Rows.pc{M:Mem}{b off ag:Nat}{rows:List (List AV)}{cs:Nat→Value}(h:Rows M b off ag rows cs)(i:Nat)(hi:i<rows.length):
  R M (.pc (rows.getD i [])) (.pointer (some ⟨b,off+i * ag,none⟩)):=by
 have e:rows.getD i []=rows[i]:=by simp[hi]
 rw[e]
 refine .pc _ b _ (fun k=>cs (i * ag+k)) (fun k hk=> ?_) (fun k hk=>h.rel i hi k hk)
 rw[h.size i hi]at hk
 rw[XW]
 exact h.mem _ (ahM hi hk)
def AV.cells? :AV→Option (List AV)
 | .v (.agg cs)=>some (cs.toList.map .v)
 | .v (.tuple _)=>none
 | .agg xs=>some xs
 | .any=>none
 | .aP _=>none
 |x=>some [x]
def AV.ju :AV→Option (List AV)
 | .v (.agg cs)=>some (cs.toList.map .v)
 | .agg xs=>some xs
 |_=>none
theorem R.Ig{M:Mem}{x:AV}{v:Value}{l:List AV}(h:R M x v)(hl:x.ju =some l):∃ cs,v= .agg cs∧RL M l cs.toList:=by
 cases h with
 |v=>
  cases v with
  |agg cs=>simp[AV.ju]at hl;subst hl;exact⟨cs,rfl,RL.exact _⟩
  |_=>simp[AV.ju]at hl
 |agg xs cs fJ hr=>simp[AV.ju]at hl;subst hl;exact⟨cs.toArray,rfl,fJ,hr⟩
 |_=>simp[AV.ju]at hl
def AV.one:AV→Bool
 | .v x=>x.oneCell'
 | .any| .agg _| .aP _=>false
 |_=>true
theorem R.cells{M:Mem}{x:AV}{v:Value}{l:List AV}(h:R M x v)(hl:x.cells? =some l):RL M l v.cells.toList:=by
 cases h with
 |v=>
  cases v with
  |agg cs=>simp[AV.cells?]at hl;subst hl;exact RL.exact _
  |tuple _=>simp[AV.cells?]at hl
  |_=>simp only[AV.cells?,Z1]at hl;subst hl;exact RL.cons (.v _) RL.nil
 |any=>simp[AV.cells?]at hl
 |agg xs cs fJ hr=>simp[AV.cells?]at hl;subst hl;exact⟨fJ,hr⟩
 |aP=>simp[AV.cells?]at hl
 |nil nn ag a h=>simp only[AV.cells?,Z1]at hl;subst hl;exact RL.cons (.nil nn ag a h) RL.nil
 |sl nn ag rows b off cap cs a1 a2 a3 a4 a5=>simp only[AV.cells?,Z1]at hl;subst hl;exact RL.cons (.sl nn ag rows b off cap cs a1 a2 a3 a4 a5) RL.nil
 |ms t b o n c=>simp only[AV.cells?,Z1]at hl;subst hl;exact RL.cons (.ms t b o n c) RL.nil
 |own ag t b u c rows off cap cs a1 a2 a3 a4 a5 a6 a8=>simp only[AV.cells?,Z1]at hl;subst hl;exact RL.cons (.own ag t b u c rows off cap cs a1 a2 a3 a4 a5 a6 a8) RL.nil
 |pc l b off cs a1 a2=>simp only[AV.cells?,Z1]at hl;subst hl;exact RL.cons (.pc l b off cs a1 a2) RL.nil
 |dN t x v a=>simp only[AV.cells?,Z1]at hl;subst hl;exact RL.cons (.dN t x v a) RL.nil
 |lp t b o=>simp only[AV.cells?,Z1]at hl;subst hl;exact RL.cons (.lp t b o) RL.nil
 |bH t b=>simp only[AV.cells?,Z1]at hl;subst hl;exact RL.cons (.bH t b) RL.nil
 |ai k n=>simp only[AV.cells?,Z1]at hl;subst hl;exact RL.cons (.ai k n) RL.nil
 |cl f a c va vc a1 a2 a3 a4=>simp only[AV.cells?,Z1]at hl;subst hl;exact RL.cons (.cl f a c va vc a1 a2 a3 a4) RL.nil
 |fl ag rows b off cs a1 a2 a3 a4=>simp only[AV.cells?,Z1]at hl;subst hl;exact RL.cons (.fl ag rows b off cs a1 a2 a3 a4) RL.nil
theorem R.one{M:Mem}{x:AV}{v:Value}(h:R M x v)(hl:x.one=true):v.oneCell'=true:=by
 cases h<;>simp_all [AV.one,Value.oneCell']
inductive aR where
 |cells (l:List AV)
 |tail (u c:Nat)
 |map (es:List (Value×Nat×AV)) (k:Nat)
deriving Inhabited
abbrev af:=List (Nat×AV)
abbrev Store:=List (Nat×Nat×aR)
def lk:af→Nat→AV
 |[],_=> .any
 |(i,x)::r,j=>bif Nat.beq i j then x else lk r j
def aM:Store→Nat→Option (Nat×aR)
 |[],_=>none
 |(i,b,x)::r,j=>bif Nat.beq i j then some (b,x)else aM r j
def BlkOK(M:Mem)(w:World)(b:Nat):aR→Prop
 | .cells l=>(∀ o,M b o=none)∧∃ cs t,w.heap[b]? =some (.cells cs t (0,0))∧RL M l cs.toList
 | .tail u c=>(∀ o,u≤o→M b o=none)∧∃ cs t,w.heap[b]? =some (.cells cs t (0,0))∧cs.size=c∧u≤c
 | .map es k=>(∀ o,M b o=none)∧∃ l:List MapEntry,w.heap[b]? =some (.map l.toArray k)∧l.map (fun e=>(e.key,e.born))=es.map (fun e=>(e.1,e.2.1))∧RL M (es.map (·.2.2)) (l.map (·.val))
class Glob (P:Program) where
 av:Nat→Option (List AV)
 gw:World→Prop
 df:List Deferred:=[]
instance (priority:=low) Glob.empty (P:Program):Glob P:=⟨fun _=>none,fun _=>True,[]⟩
class ie (P:Program) [Glob P]:Prop where
 h:Glob.df P=[]
instance (priority:=low) ie.empty (P:Program): @ie P (Glob.empty P):= @ie.mk P (Glob.empty P) rfl
structure Base extends World where
 bm:Mem
instance:Coe Base World:=⟨Base.toWorld⟩
structure Inv(P:Program)[Glob P](M:Mem)(w0:Base)(σ:Store)(w:World):Prop where
 os:w.os=w0.os
 tape:w.tape=w0.tape
 output:w.output=w0.output
 size:w0.heap.size≤w.heap.size
 old:∀ k,k<w0.heap.size→w.heap[k]? =w0.heap[k]?
 cH:∀ b o v,M b o=some v→w.cell? ⟨b,o,none⟩=some v
 st:∀ e∈σ,w0.heap.size≤e.2.1∧BlkOK M w e.2.1 e.2.2
 nd:(σ.map (·.2.1)).Nodup
 gl:∀ g l,Glob.av P g=some l→R M (.pc l) (.pointer (some ⟨g,0,none⟩))
 gw:Glob.gw P w0
 bm:∀ b o v,M b o=some v→b<w0.heap.size→w0.bm b o=some v
def ct(M:Mem)(rg:af)(a:Act):Prop:=∀ i,R M (lk rg i) (a.tmps.getD i undef)
theorem ct.mono{M M':Mem}(hM:M.le M'){rg:af}{a:Act}(h:ct M rg a):ct M' rg a:=fun i=>(h i).mono hM
def ev(rg:af):Operand→AV
 | .tmp t=>lk rg t
 | .const v=> .v v
 | .global g=> .v (.pointer (some ⟨g,0,none⟩))
 | .func f=> .v (.func (.func f) #[] #[])
theorem ct.ev{M:Mem}{rg:af}{a:Act}(h:ct M rg a)(x:Operand):R M (ev rg x) (a.eval x):=by
 cases x with
 |tmp t=>exact h t
 |const v=>exact .v v
 |global g=>exact .v _
 |func f=>exact .v _
def bj(d:Option Nat)(x:AV)(rg:af):af:=match d with|some d=>(d,x)::rg|none=>rg
theorem ct.put{M:Mem}{rg:af}{a:Act}(h:ct M rg a)(d:Option Nat){x:AV}{v:Value}(hd:∀ t,d=some t→t<a.tmps.size)(hx:R M x v):ct M (bj d x rg) (a.put d v):=by
 cases d with
 |none=>exact h
 |some d=>
  intro i
  simp only[bj,lk,Act.put]
  by_cases e:d=i
  ·simp_all
  ·have hb:Nat.beq d i=false:=by rw[← X6,Nat.beq_eq];grind
   have:(a.tmps.setIfInBounds d v).getD i undef=a.tmps.getD i undef:=by
    simp_all
   rw[hb,this]
   exact h i
theorem Act.size_put(a:Act)(d:Option Nat)(v:Value):(a.put d v).tmps.size=a.tmps.size:=by cases d<;>simp[Act.put]
theorem Act.Bt(a:Act)(d:Option Nat)(v:Value):(a.put d v).defers=a.defers:=by cases d<;>simp[Act.put]
def eR:List Nat→af→af
 |[],_=>[]
 |i::l,rg=>(i,lk rg i)::eR l rg
theorem ct.eR{M:Mem}{rg:af}{a:Act}(h:ct M rg a)(l:List Nat):ct M (eR l rg) a:=by
 induction l with
 |nil=>exact fun i=> .any _
 |cons t l ih=>
  intro i
  simp only[Sx.eR,lk]
  cases hb:Nat.beq t i with
  |true=>rw[Z2 hb];exact h i
  |false=>exact ih i
theorem Inv.drew{P:Program}[Glob P]{M:Mem}{w0:Base}{σ:Store}{w:World}(h:Inv P M w0 σ w)(n:Nat):Inv P M w0 σ {w with drawn:=n}:=
 ⟨h.os,h.tape,h.output,h.size,h.old,h.cH,h.st,h.nd,h.gl,h.gw,h.bm⟩
theorem BlkOK.lt{M:Mem}{w:World}{b:Nat}{x:aR}(h:BlkOK M w b x):b<w.heap.size:=by
 cases x with
 |cells l=>obtain⟨_,cs,t,hh,_⟩:=h;grind
 |tail u c=>obtain⟨_,cs,t,hh,_⟩:=h;grind
 |map es k=>obtain⟨_,l,hh,_⟩:=h;grind
theorem Inv.sq{P:Program}[Glob P]{M:Mem}{w0:Base}{σ:Store}{w:World}(h:Inv P M w0 σ w){e:Nat×Nat×aR}(he:e∈σ):e.2.1<w.heap.size:=(h.st e he).2.lt
theorem Inv.fresh{P:Program}[Glob P]{M:Mem}{w0:Base}{σ:Store}{w:World}(h:Inv P M w0 σ w):w.heap.size∉σ.map (·.2.1):=by
 intro hm
 obtain⟨e,he,h2⟩:=Y9.1 hm
 have:=h.sq he
 omega
theorem vd:∀ {σ:Store} {t b:Nat} {x:aR},aM σ t=some (b,x)→(t,b,x)∈σ
 |[],t,b,x,h=>by cases h
 |(i,b',x')::r,t,b,x,h=>by
  simp only[aM]at h
  cases hb:Nat.beq i t with
  |true=>
   simp_all
  |false=>rw[hb]at h;exact ZO _ (vd h)
def dx:Store→Nat→Nat→aR→Store
 |[],_,_,_=>[]
 |(i,b',x')::r,t,b,x=>bif Nat.beq i t then(t,b,x)::r else(i,b',x')::dx r t b x
theorem yr:∀ {σ:Store} {t b:Nat} {x:aR},aM σ t=some (b,x)→∃ pre post,σ=pre++(t,b,x)::post∧∀ b' x',dx σ t b' x'=pre++(t,b',x')::post
 |[],t,b,x,h=>by cases h
 |(i,b0,x0)::r,t,b,x,h=>by
  simp only[aM]at h
  cases hb:Nat.beq i t with
  |true=>
   refine⟨[],r,by simp_all,fun b' x'=>by simp only[dx,hb,Y6,Zl]⟩
  |false=>
   rw[hb]at h
   obtain⟨pre,post,h1,h2⟩:=yr h
   exact⟨(i,b0,x0)::pre,post,by grind,fun b' x'=>by simp only[dx,hb,YD,h2,ZH]⟩
theorem Inv.Et{P:Program}[Glob P]{M:Mem}{w0:Base}{σ:Store}{w:World}(h:Inv P M w0 σ w)(o:Nat):M w.heap.size o=none:=by
 cases e:M w.heap.size o with
 |none=>rfl
 |some x=>have:=World.block_lt_of_cell? _ _ (h.cH _ _ _ e);grind
theorem J7(w:World)(o:Obj)(k:Nat)(h:k<w.heap.size):(w.alloc o).heap[k]? =w.heap[k]? :=by
 show(w.heap.push o)[k]? =_
 grind
theorem heap_alloc_new(w:World)(o:Obj):(w.alloc o).heap[w.heap.size]? =some o:=by
 show(w.heap.push o)[w.heap.size]? =_
 rw[Array.getElem?_push,ZW rfl]
theorem BlkOK.heap{M:Mem}{w w':World}{b:Nat}{x:aR}(h:BlkOK M w b x)(e:w'.heap[b]? =w.heap[b]?):BlkOK M w' b x:=by
 cases x with
 |cells l=>obtain⟨a,cs,t,hh,r⟩:=h;exact⟨a,cs,t,e.trans hh,r⟩
 |tail u c=>obtain⟨a,cs,t,hh,r⟩:=h;exact⟨a,cs,t,e.trans hh,r⟩
 |map es k=>obtain⟨a,l,hh,r⟩:=h;exact⟨a,l,e.trans hh,r⟩
theorem Inv.alloc{P:Program}[Glob P]{M:Mem}{w0:Base}{σ:Store}{w:World}(h:Inv P M w0 σ w)(o:Obj):Inv P M w0 σ (w.alloc o):=by
 refine⟨h.os,h.tape,h.output,by simp;have:=h.size;omega,fun k hk=> ?_,fun b o' v hv=> ?_,fun e he=> ?_,h.nd,h.gl,h.gw,h.bm⟩
 ·rw[J7 _ _ _ (Yu hk h.size)];exact h.old k hk
 ·have:=h.cH b o' v hv
  rw[World.cell?_alloc_lt _ _ _ (World.block_lt_of_cell? _ _ this)];grind
 ·exact⟨(h.st e he).1,(h.st e he).2.heap (J7 _ _ _ (h.sq he))⟩
theorem Inv.box{P:Program}[Glob P]{M:Mem}{w0:Base}{σ:Store}{w:World}(h:Inv P M w0 σ w){cs:List Value}{l:List AV}(t:TypeId)(hl:RL M l cs)(tag:Nat):
  Inv P M w0 ((tag,w.heap.size,.cells l)::σ) (w.alloc (.cells cs.toArray t)):=by
 have h':=h.alloc (.cells cs.toArray t)
 refine⟨h'.os,h'.tape,h'.output,h'.size,h'.old,h'.cH,fun e he=> ?_,?_,h'.gl,h'.gw,h'.bm⟩
 ·rcases ZT.1 he with rfl|he
  ·exact⟨h.size,h.Et,cs.toArray,t,heap_alloc_new _ _,by grind⟩
  ·exact h'.st e he
 ·simp only[ZE,YV]
  exact⟨h.fresh,h.nd⟩
end Go.Sx
namespace Go.Sx
open Go.RowKit
inductive eQ where
 |ret (x:AV)
 |gL (ch:List PanicEntry)
def kq(M:Mem):eQ→Ending→Prop
 | .ret x,.returned v=>R M x v
 | .gL ch,.panicked ID=>ID=ch
 |_,_=>False
def Spec(P:Program)[Glob P](f:FuncId)(as:List AV)(σ:Store)(Q:eQ→Store→Prop):Prop:=
 ∀ (M:Mem) (w0:Base) (w:World) (cs:List Value),Inv P M w0 σ w→RL M as cs→
  Calls P f cs.toArray w fun e w'=>∃ M' r σ',M.le M'∧Inv P M' w0 σ' w'∧kq M' r e∧Q r σ'
structure Pure(P:Program)[Glob P](f:FuncId)(as:List AV)(r:AV):Prop where
 sp:∀ σ,Spec P f as σ fun r' σ'=>r'= .ret r∧σ'=σ
def nA(P:Program)[Glob P](f:FuncId)(as:List AV)(σ:Store)(K:AV→Store→Prop)(E:List PanicEntry→Store→Prop):Prop:=
 ∃ Q:eQ→Store→Prop,Spec P f as σ Q∧(∀ x σ',Q (.ret x) σ'→K x σ')∧(∀ ch σ',Q (.gL ch) σ'→E ch σ')
theorem callP_congr{P:Program}[Glob P]{f:FuncId}{as as':List AV}{σ:Store}{K:AV→Store→Prop}{E:List PanicEntry→Store→Prop}(h:as=as'):nA P f as σ K E=nA P f as' σ K E:=by rw[h]
theorem rA{P:Program}[Glob P]{f:FuncId}{as:List AV}{σ:Store}{K:AV→Store→Prop}{E:List PanicEntry→Store→Prop}{r:AV}(h:Pure P f as r)(k:K r σ):nA P f as σ K E:=
 ⟨_,h.sp σ,fun _ _ ⟨e,e'⟩=>by grind,fun _ _ ⟨e,_⟩=>by cases e⟩
def ij(P:Program)[Glob P](f:FuncId):Bool:=
 match P.funcs[f]? with
 |some fn=>fn.name != "runtime.NumGoroutine" && fn.body.isSome
 |none=>false
inductive tJ where
 |int|str|bool
deriving DecidableEq
inductive yA where
 |bool|slice|map|func|ptr
deriving DecidableEq
inductive TI where
 |str
 |int (k:IntKind)
 |sl (e:TypeId)
 |mp (k v:TypeId)
 |sz (n:Nat)
 |other
deriving DecidableEq
def kj:Option TypeDesc→TI
 |some .string=> .str
 |some (.int k)=> .int k
 |some (.slice e)=> .sl e
 |some (.map k v)=> .mp k v
 |_=> .other
def BA(P:Program)(t:TypeId):TI:=match P.underlying t with
 |some (.slice e)=>kj (P.underlying e)
 |_=> .other
def CN(P:Program)(t:TypeId):TI:=match P.underlying t with
 |some (.map k _)=>kj (P.underlying k)
 |_=> .other
def Di(P:Program)(t:TypeId):TI:=match P.underlying t with
 |some (.slice e)=>match P.info? e with
  |some i=> .sz i.size
  |none=> .other
 |_=> .other
def eK(P:Program):Op→List TI
 | .convert s d _=>[kj (P.underlying s),BA P s,kj (P.underlying d),BA P d]
 | .slice t _ _ _ (some _)=>[kj (P.underlying t),Di P t]
 | .slice t _ _ _ none=>[kj (P.underlying t)]
 | .insert t _ _ _| .mapUpdate t _ _ _| .mapEntry t _ _| .entryStore t _ _ _| .lookup t _ _ _=>[kj (P.underlying t),CN P t]
 | .makeSlice t _ _=>[kj (P.underlying t),BA P t]
 |_=>[]
theorem Gx{d:Option TypeDesc}(h:kj d= .str):d=some .string:=by unfold kj at h;split at h<;>first|rfl|cases h
theorem ML{d:Option TypeDesc}{k:IntKind}(h:kj d= .int k):d=some (.int k):=by unfold kj at h;split at h<;>first|(cases h;rfl)|cases h
theorem yn{d:Option TypeDesc}{e:TypeId}(h:kj d= .sl e):d=some (.slice e):=by unfold kj at h;split at h<;>first|(cases h;rfl)|cases h
theorem vJ{d:Option TypeDesc}{k v:TypeId}(h:kj d= .mp k v):d=some (.map k v):=by unfold kj at h;split at h<;>first|(cases h;rfl)|cases h
inductive aw where
 |mv (x:Operand)
 |pick (c a b:Operand)
 |box (t:TypeId) (x:Operand)
 |alloc (t:TypeId) (z:Value)
 |build (z:List Value) (parts:List (Nat×Nat×Operand))
 |dZ (t:TypeId) (ag:Nat) (parts:List Operand)
 |load (agg:Bool) (n:Nat) (x:Operand)
 |store (n:Nat) (x v:Operand)
 |nk (x:Operand)
 |bin (op:BinOp) (x y:Operand)
 |jR (neg:Bool) (k:yA) (x y:Operand)
 |eqs (neg:Bool) (ks:List tJ) (x y:Operand)
 |un (op:UnOp) (x:Operand)
 |mI (k:IntKind) (x:Operand)
 |nF (x:Operand)
 |oe (t:TypeId) (x:Operand)
 |od (fn:Fn) (first captured:List Operand)
 |slice (ag:Nat) (x:Operand) (lo hi:Option Operand)
 |dk (off:Nat) (x:Operand)
 |field (agg:Bool) (off n:Nat) (x:Operand)
 |iz (ag:Nat) (x i:Operand)
 |mY (len ag:Nat) (x i:Operand)
 |idxs (x i:Operand)
 |extract (x:Operand) (i:Nat)
 |call (f:FuncId) (args:List Operand)
 |fR (f:Operand) (args:List Operand)
 |len (str:Bool) (x:Operand)
 |append (t:TypeId) (ag bytes:Nat) (z:List Value) (x y:Operand)
 |max2 (x y:Operand)
 |min2 (x y:Operand)
 |cQ (op:Op) (ty:TypeId) (ti:List TI) (args:List Operand)
 |exts (op:Op) (ty:TypeId) (ti:List TI) (args:List Operand)
 |panic (x:Operand)
def over{α:Type}(l:List α)(o:Nat)(l':List α):List α:=l.take o++l'++l.drop (o+l'.length)
theorem CW{α:Type}(l:List α)(o:Nat)(l':List α)(h:o+l'.length≤l.length):(over l o l').length=l.length:=by
 simp[over];omega
theorem RL.over{M:Mem}{xs xs':List AV}{cs bP:List Value}(h:RL M xs cs)(k:RL M xs' bP)(o:Nat):RL M (over xs o xs') (over cs o bP):=by
 unfold Sx.over
 rw[k.1]
 exact RL.append (RL.append (h.take o) k) (h.drop _)
def mB(op:BinOp):Value→Value→(Value→Prop)→Prop
 | .int k a,.int k' b,K=>
  match op with
  | .add=>k=k'∧K (.int k (k.wrap (a+b)))
  | .sub=>k=k'∧K (.int k (k.wrap (a-b)))
  | .mul=>k=k'∧K (.int k (k.wrap (a * b)))
  | .quo=>k=k'∧b≠0∧K (.int k (k.wrap (a.tdiv b)))
  | .rem=>k=k'∧b≠0∧K (.int k (a.tmod b))
  | .eql=>k=k'∧K (.bool (decide (a=b)))
  | .neq=>k=k'∧K (.bool (!decide (a=b)))
  | .lss=>k=k'∧K (.bool (decide (a<b)))
  | .leq=>k=k'∧K (.bool (decide (a≤b)))
  | .gtr=>k=k'∧K (.bool (decide (b<a)))
  | .geq=>k=k'∧K (.bool (decide (b≤a)))
  | .and=>k=k'∧K (.int k (bits .and k a b))
  | .or=>k=k'∧K (.int k (bits .or k a b))
  | .xor=>k=k'∧K (.int k (bits .xor k a b))
  | .andNot=>k=k'∧K (.int k (bits .andNot k a b))
  | .shl=>0≤b∧b≤k.bits∧K (.int k (k.wrap (a * 2 ^ b.toNat)))
  | .shr=>0≤b∧b≤k.bits∧K (.int k (a / 2 ^ b.toNat))
 | .string a,.string b,K=>
  match op with
  | .add=>a.size+b.size≤9223372036854775807∧K (.string (a++b))
  | .eql=>K (.bool (decide (a=b)))
  | .neq=>K (.bool (!decide (a=b)))
  | .lss=>K (.bool (Op.bytesLess a.toList b.toList))
  | .leq=>K (.bool (Op.bytesLess a.toList b.toList || decide (a=b)))
  | .gtr=>K (.bool (!(Op.bytesLess a.toList b.toList || decide (a=b))))
  | .geq=>K (.bool (!Op.bytesLess a.toList b.toList))
  |_=>False
 |_,_,_=>False
def ue:yA→AV→AV→Option Bool
 | .bool,.v (.bool a),.v (.bool b)=>some (a == b)
 | .slice,.sl true _ _,.v (.slice none _ _)=>some false
 | .slice,.v (.slice none _ _),.sl true _ _=>some false
 | .slice,.own ..,.v (.slice none _ _)=>some false
 | .slice,.v (.slice none _ _),.own .. =>some false
 | .slice,.ms ..,.v (.slice none _ _)=>some false
 | .slice,.v (.slice none _ _),.ms .. =>some false
 | .slice,.v (.slice (some _) _ _),.v (.slice none _ _)=>some false
 | .slice,.v (.slice none _ _),.v (.slice (some _) _ _)=>some false
 | .slice,.v (.slice none _ _),.v (.slice none _ _)=>some true
 | .map,.v (.map (some _)),.v (.map none)=>some false
 | .map,.v (.map none),.v (.map (some _))=>some false
 | .map,.v (.map none),.v (.map none)=>some true
 | .func,.v (.func ..),.v .nilFunc=>some false
 | .func,.v .nilFunc,.v (.func ..)=>some false
 | .func,.v .nilFunc,.v .nilFunc=>some true
 | .ptr,.lp ..,.v (.pointer none)=>some false
 | .ptr,.v (.pointer none),.lp .. =>some false
 | .ptr,.v (.pointer (some _)),.v (.pointer none)=>some false
 | .ptr,.v (.pointer none),.v (.pointer (some _))=>some false
 | .ptr,.v (.pointer none),.v (.pointer none)=>some true
 |_,_,_=>none
def py:tJ→AV→AV→Option Bool
 | .int,.v (.int k a),.v (.int k' b)=>if k=k' then some (decide (a=b))else none
 | .str,.v (.string a),.v (.string b)=>some (decide (a=b))
 | .bool,.v (.bool a),.v (.bool b)=>some (a == b)
 |_,_,_=>none
def nI:List tJ→List AV→List AV→Option Bool
 |[],[],[]=>some true
 |k::ks,x::xs,y::ys=>match py k x y with
  |some b=>(nI ks xs ys).map (b && ·)
  |none=>none
 |_,_,_=>none
def GF:UnOp→Value→Option Value
 | .neg,.int k n=>some (.int k (k.wrap (0-n)))
 | .not,.bool b=>some (.bool !b)
 |_,_=>none
def aE(rg:af):List Operand→List AV
 |[]=>[]
 |x::l=>ev rg x::aE rg l
def ik:List AV→Option (List Value)
 |[]=>some []
 | .v x::l=>(ik l).map (x::·)
 |_::_=>none
def bV:List AV→Option (List Value)
 |[]=>some []
 | .v x::l=>(bV l).map (x::·)
 | .lp _ b o::l=>(bV l).map (.pointer (some ⟨b,o,none⟩)::·)
 | .agg xs::l=>match ik xs with
  |some cs=>(bV l).map (.agg cs.toArray::·)
  |none=>none
 |_::_=>none
def qf:List AV→List (Nat×Nat×AV)→Option (List AV)
 |c,[]=>some c
 |c,(off,n,x)::rest=>match x.cells? with
  |some l=>if l.length=n∧off+n≤c.length then qf (over c off l) rest else none
  |none=>none
def mJ(rg:af):List (Nat×Nat×Operand)→List (Nat×Nat×AV)
 |[]=>[]
 |(o,n,x)::l=>(o,n,ev rg x)::mJ rg l
def rowsOf(ag:Nat):List AV→Option (List (List AV))
 |[]=>some []
 |x::l=>match x.cells? with
  |some r=>if r.length=ag then(rowsOf ag l).map (r::·)else none
  |none=>none
def jl :Option AV→Option (Option Int)
 |none=>some none
 |some (.v (.int _ i))=>some (some i)
 |_=>none
def du(b:UInt8):List AV:=[.v (.int .u8 b.toNat)]
def dR(ag:Nat):AV→Option (List (List AV))
 | .sl _ e rows=>if e=ag then some rows else none
 | .own e _ _ _ _ rows=>if e=ag then some rows else none
 | .v (.slice none 0 0)=>some []
 | .v (.string s)=>if ag=1 then some (s.data.toList.map du)else none
 |_=>none
def vf(lt:Bool):Value→Value→Option Value
 | .int k x,.int k' y=>if k=k' then some (.int k (if lt then(if y<x then y else x)else(if y>x then y else x)))else none
 |_,_=>none
def WC:Next→Value→Prop
 | .value v,u=>u=v
 | .skip,u=>u=undef
 |_,_=>False
def gb(P:Program)[Glob P](op:Op)(ty:TypeId)(ti:List TI)(args:List Operand)(as:List AV)(σ:Store)(Q:AV→Store→Prop):Prop:=
 eK P op=ti→∀ (M:Mem) (w0:Base) (w:World) (ρ:Operand→Value),Inv P M w0 σ w→RL M as (args.map ρ)→
  ∃ nx w' M' x v σ',(execOp ρ ⟨none,op,ty, "",#[],none⟩).run P w= .ok nx w'∧WC nx v∧M.le M'∧Inv P M' w0 σ' w'∧R M' x v∧Q x σ'
structure ko(P:Program)[Glob P](op:Op)(ty:TypeId)(ti:List TI)(args:List Operand)(as:List AV)(r:AV):Prop where
 sp:∀ σ,gb P op ty ti args as σ fun x σ'=>x=r∧σ'=σ
theorem gb.mono{P:Program}[Glob P]{op:Op}{ty:TypeId}{ti:List TI}{args:List Operand}{as:List AV}{σ:Store}{Q Q':AV→Store→Prop}(h:gb P op ty ti args as σ Q)(k:∀ x σ',Q x σ'→Q' x σ'):gb P op ty ti args as σ Q':=
 fun bx M w0 w ρ hI hR=>let⟨nx,w',M',x,v,σ',h1,h2,h3,h4,h5,h6⟩:=h bx M w0 w ρ hI hR;⟨nx,w',M',x,v,σ',h1,h2,h3,h4,h5,k _ _ h6⟩
def al(P:Program)[Glob P](cfg:Nat→Nat)(d:Option Nat)(rg:af)(σ:Store)(K:AV→Store→Prop)(E:List PanicEntry→Store→Prop):aw→Prop
 | .mv x=>K (ev rg x) σ
 | .pick c a b=>match ev rg c with
  | .v (.bool t)=>K (if t then ev rg a else ev rg b) σ
  |_=>False
 | .box _ x=>match(ev rg x).cells? with
  |some l=>∀ b,K (.lp (d.getD 0) b 0) ((d.getD 0,b,.cells l)::σ)
  |none=>False
 | .alloc _ z=>∀ b,K (.lp (d.getD 0) b 0) ((d.getD 0,b,.cells (z.cells.toList.map .v))::σ)
 | .build z parts=>match qf (z.map .v) (mJ rg parts)with
  |some l=>K (.agg l) σ
  |none=>False
 | .dZ _ ag parts=>match rowsOf ag (aE rg parts)with
  |some rows=>rows.length≤1000000∧match cfg (d.getD 0)with
   |0=>K (.sl true ag rows) σ
   |1=>0<ag∧∀ b,K (.own ag (d.getD 0) b (rows.length * ag) (rows.length * ag) rows) ((d.getD 0,b,.tail (rows.length * ag) (rows.length * ag))::σ)
   |3=>K (.fl ag rows) σ
   |_=>∀ b,K (.ms (d.getD 0) b 0 rows.length rows.length) ((d.getD 0,b,.cells rows.flatten)::σ)
  |none=>False
 | .load agg n x=>match ev rg x with
  | .lp t b o=>match aM σ t with
   |some (b',.cells l)=>b=b'∧if agg then o+n≤l.length∧K (.agg ((l.drop o).take n)) σ else match l[o]? with
    |some y=>K y σ
    |none=>False
   |_=>False
  | .pc l=>if agg then n≤l.length∧K (.agg (l.take n)) σ else match l[0]? with
    |some y=>K y σ
    |none=>False
  | .v (.pointer (some ⟨g,0,none⟩))=>match Glob.av P g with
   |some l=>if agg then n≤l.length∧K (.agg (l.take n)) σ else match l[0]? with
    |some y=>K y σ
    |none=>False
   |none=>False
  |_=>False
 | .store n x y=>match ev rg x,(ev rg y).cells? with
  | .lp t b o,some l'=>match aM σ t with
   |some (b',.cells l)=>b=b'∧l'.length=n∧l'.all AV.one=true∧o+n≤l.length∧K (.v undef) (dx σ t b (.cells (over l o l')))
   |_=>False
  |_,_=>False
 | .nk x=>match ev rg x with
  | .v (.pointer (some a))=>K (.v (.pointer (some a))) σ
  | .lp t b o=>K (.lp t b o) σ
  | .pc l=>K (.pc l) σ
  | .v (.func (.func f) a c)=>K (.v (.func (.func f) a c)) σ
  | .cl f a c=>K (.cl f a c) σ
  |_=>False
 | .bin op x y=>match ev rg x,ev rg y with
  | .v a,.v b=>mB op a b fun r=>K (.v r) σ
  |_,_=>False
 | .jR neg k x y=>match ue k (ev rg x) (ev rg y)with
  |some b=>K (.v (.bool (b ^^ neg))) σ
  |none=>False
 | .eqs neg ks x y=>match(ev rg x).ju,(ev rg y).ju with
  |some xs,some ys=>match nI ks xs ys with
   |some b=>K (.v (.bool (b ^^ neg))) σ
   |none=>False
  |_,_=>False
 | .un op x=>match ev rg x with
  | .v a=>match GF op a with
   |some r=>K (.v r) σ
   |none=>False
  |_=>False
 | .mI k x=>match ev rg x with
  | .v (.int _ n)=>K (.v (.int k (k.wrap n))) σ
  |_=>False
 | .nF x=>match ev rg x with
  | .v (.string s)=>K (.v (.string s)) σ
  |_=>False
 | .oe t x=>K (.dN t (ev rg x)) σ
 | .od fn first captured=>match bV (aE rg first),bV (aE rg captured)with
  |some a,some c=>K (.v (.func fn a.toArray c.toArray)) σ
  |_,_=>match fn with
   | .func f=>K (.cl f (aE rg first) (aE rg captured)) σ
   |_=>False
 | .slice ag x lo hi=>match jl (lo.map (ev rg)),jl (hi.map (ev rg))with
  |some lo,some hi=>match ev rg x with
   | .sl nn e rows=>e=ag∧0≤lo.getD 0∧lo.getD 0≤hi.getD rows.length∧hi.getD rows.length≤rows.length∧K (.sl nn ag ((rows.take (hi.getD rows.length).toNat).drop (lo.getD 0).toNat)) σ
   | .own e tg b u c rows=>e=ag∧0≤lo.getD 0∧lo.getD 0≤hi.getD rows.length∧hi.getD rows.length≤rows.length∧
     K (if hi.isNone then .own ag tg b u c (rows.drop (lo.getD 0).toNat)else .sl true ag ((rows.take (hi.getD rows.length).toNat).drop (lo.getD 0).toNat)) σ
   | .v (.slice none 0 0)=>lo.getD 0=0∧hi.getD 0=0∧K (.v (.slice none 0 0)) σ
   |_=>False
  |_,_=>False
 | .dk off x=>match ev rg x with
  | .lp t b o=>K (.lp t b (o+off)) σ
  | .pc l=>K (.pc (l.drop off)) σ
  |_=>False
 | .field agg off n x=>match(ev rg x).ju with
  |some l=>off+n≤l.length∧if agg then K (.agg ((l.drop off).take n)) σ else match l[off]? with
   |some y=>K y σ
   |none=>False
  |none=>False
 | .iz ag x i=>match ev rg i with
  | .v (.int _ i)=>match ev rg x with
   | .sl _ e rows=>e=ag∧0≤i∧i<rows.length∧K (.pc (rows.getD i.toNat [])) σ
   | .own e _ _ _ _ rows=>e=ag∧0≤i∧i<rows.length∧K (.pc (rows.getD i.toNat [])) σ
   | .ms t b o n _=>0≤i∧i<n∧K (.lp t b (o+i.toNat * ag)) σ
   |_=>False
  |_=>False
 | .mY n ag x i=>match ev rg i with
  | .v (.int _ i)=>match ev rg x with
   | .lp t b o=>0≤i∧i<n∧K (.lp t b (o+i.toNat * ag)) σ
   | .pc l=>0≤i∧i<n∧K (.pc (l.drop (i.toNat * ag))) σ
   | .v (.pointer (some ⟨g,o,none⟩))=>∃ l,Glob.av P g=some l∧o=0∧0≤i∧i<n∧K (.pc (l.drop (i.toNat * ag))) σ
   |_=>False
  |_=>False
 | .idxs x i=>match ev rg i,ev rg x with
  | .v (.int _ i),.v (.string s)=>∃ h:0≤i∧i<s.size,K (.v (.int .u8 (s[i.toNat]'(by omega)).toNat)) σ
  |_,_=>False
 | .extract x i=>match ev rg x with
  | .aP xs=>match xs[i]? with
   |some y=>K y σ
   |none=>False
  | .v (.tuple vs)=>match vs[i]? with
   |some y=>K (.v y) σ
   |none=>False
  |_=>False
 | .call f args=>nA P f (aE rg args) σ K E
 | .fR f args=>match ev rg f with
  | .v (.func (.func f) a c)=>ij P f=true∧nA P f (a.toList.map .v++aE rg args++c.toList.map .v) σ K E
  | .cl f a c=>ij P f=true∧nA P f (a++aE rg args++c) σ K E
  |_=>False
 | .len true x=>match ev rg x with
  | .v (.string s)=>K (.v (.int .i64 s.size)) σ
  |_=>False
 | .len false x=>match ev rg x with
  | .v (.slice _ n _)=>K (.v (.int .i64 n)) σ
  | .ms _ _ _ n _=>K (.v (.int .i64 n)) σ
  | .sl _ _ rows=>(rows.length≤maxLen→K (.v (.int .i64 rows.length)) σ)
  | .own _ _ _ _ _ rows=>(rows.length≤maxLen→K (.v (.int .i64 rows.length)) σ)
  |_=>False
 | .append _ ag bytes _ x y=>match ev rg x,dR ag (ev rg y)with
  | .v (.slice none 0 0),some rows'=>rows'.length * bytes≤35184372088832∧
    (rows'=[]→K (.v (.slice none 0 0)) σ)∧(rows'≠[]→∀ b u c,u=rows'.length * ag→K (.own ag (d.getD 0) b u c rows') ((d.getD 0,b,.tail u c)::σ))
  | .own e tg b u c rows,some rows'=>e=ag∧aM σ tg=some (b,.tail u c)∧(rows.length+rows'.length) * bytes≤35184372088832∧rows'.all (fun r=>r.all AV.one)=true∧
    ∀ b' u' c',(u=rows.length * ag→u'=(rows.length+rows'.length) * ag)→K (.own ag tg b' u' c' (rows++rows')) (dx σ tg b' (.tail u' c'))
  | .fl e rows,some rows'=>e=ag∧(rows.length+rows'.length) * bytes≤35184372088832∧(rows'=[]→K (.fl ag rows) σ)∧(rows'≠[]→
    ∀ b u c,K (.own ag (d.getD 0) b u c (rows++rows')) ((d.getD 0,b,.tail u c)::σ))
  |_,_=>False
 | .max2 x y=>match ev rg x,ev rg y with
  | .v a,.v b=>match vf false a b with
   |some r=>K (.v r) σ
   |none=>False
  |_,_=>False
 | .min2 x y=>match ev rg x,ev rg y with
  | .v a,.v b=>match vf true a b with
   |some r=>K (.v r) σ
   |none=>False
  |_,_=>False
 | .cQ op ty ti args=>gb P op ty ti args (aE rg args) σ K
 | .exts op ty ti args=>gb P op ty ti args (aE rg args) σ K
 | .panic x=>match ev rg x with
  | .dN t y=>match bV [y]with
   |some [v]=>E [{v:= .iface t v,recovered:=false}] σ
   |_=>False
  |_=>False
end Go.Sx
