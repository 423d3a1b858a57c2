/-
  The layer Sx, first part: abstract values, what they stand for in a world, the invariant of a walk. Over any program.
-/
import Derived.Orders
import Derived.WalkKit
set_option linter.unusedVariables false
set_option linter.unusedSimpArgs false
set_option linter.unusedSectionVars false
abbrev Z9:= @List.length_append
abbrev Z8:= @List.length_cons
abbrev Z7:= @List.length_map
abbrev Z6:= @if_neg
abbrev Z5:= @List.length_nil
abbrev Z4:= @List.length_take
abbrev Z3:= @if_pos
abbrev Z2:= @List.size_toArray
abbrev Z1:= @Nat.zero_le
abbrev Z0:= @Array.getElem?_eq_some_iff
abbrev ZY:= @List.getD_eq_getElem?_getD
abbrev ZX:= @List.getElem?_eq_getElem
abbrev ZW:= @Nat.le_of_ble_eq_true
abbrev ZV:= @List.take_succ_eq_append_getElem
abbrev ZU:= @List.take_of_length_le
abbrev ZT:= @Array.getD_eq_getD_getElem?
abbrev ZS:= @List.cons.injEq
abbrev ZR:= @Nat.le_refl
abbrev ZQ:= @List.mem_cons
abbrev ZP:= @Bool.and_eq_true
abbrev ZO:= @Option.map_eq_some_iff
abbrev ZN:= @Option.some.injEq
abbrev ZM:= @List.eq_nil_of_length_eq_zero
abbrev ZL:= @List.mem_cons_of_mem
abbrev ZK:= @List.mem_append_left
abbrev ZJ:= @Nat.le_trans
abbrev ZI:= @List.mem_append
abbrev ZH:= @Array.getElem?_eq_getElem
abbrev ZG:= @Bool.false_eq_true
abbrev ZF:= @List.getElem_map
abbrev ZE:= @List.getElem?_eq_some_iff
abbrev ZD:= @Array.all_eq_true_iff_forall_mem
abbrev ZC:= @List.map_cons
abbrev ZB:= @List.append_assoc
abbrev ZA:= @decide_eq_false
abbrev Zz:= @List.map_append
abbrev Zy:= @congrArg
abbrev Zx:= @List.all_eq_true
abbrev Zv:= @List.mem_cons_self
abbrev Zu:= @Option.getD_some
abbrev Zt:= @List.mem_append_right
abbrev Zq:= @List.mem_singleton
abbrev Zp:= @Array.getElem?_setIfInBounds
abbrev Zn:= @decide_eq_true_eq
abbrev Zm:= @Nat.eq_of_beq_eq_true
abbrev Zl:= @Nat.zero_add
abbrev Zk:= @and_true
abbrev Zj:= @List.getElem_of_mem
abbrev Zi:= @Array.length_toList
abbrev Zh:= @List.mem_filter
abbrev Zg:= @List.length_singleton
abbrev Zf:= @List.getElem_mem
abbrev Ze:= @List.cons_append
abbrev Zd:= @decide_eq_true
abbrev Zc:= @Option.map_some
abbrev Zb:= @List.append_nil
abbrev Za:= @if_false
abbrev Y9:= @List.mem_map
abbrev Y8:= @List.getElem_append_right
abbrev Y7:= @List.getElem?_append_left
abbrev Y6:= @List.mem_range
abbrev Y5:= @List.map_nil
abbrev Y4:= @List.getElem_append_left
abbrev Y3:= @List.mem_iff_getElem
abbrev Y2:= @List.drop_length
abbrev Y1:= @Decidable.not_not
abbrev Y0:= @List.nil_append
abbrev YZ:= @List.mem_of_mem_take
abbrev YX:= @List.nodup_cons
abbrev YW:= @Array.getElem?_setIfInBounds_ne
abbrev YV:= @if_true
abbrev YU:= @Bool.or_eq_true
abbrev YT:= @Nat.add_mul
abbrev YS:= @List.take_append_of_le_length
abbrev YR:= @List.getElem_cons_zero
abbrev YQ:= @List.drop_eq_nil_of_le
abbrev YP:= @Bool.not_eq_true'
abbrev YO:= @Nat.mul_one
abbrev YN:= @Nat.add_zero
abbrev YM:= @List.find?_eq_some_iff_getElem
abbrev YL:= @List.pairwise_iff_getElem
abbrev YK:= @List.getElem?_map
abbrev YJ:= @Int.toNat_natCast
abbrev YI:= @List.take_append_drop
abbrev YH:= @Prod.mk.injEq
abbrev YG:= @Option.isSome_iff_exists
abbrev YF:= @Nat.lt_or_ge
abbrev YE:= @Nat.lt_of_lt_of_le
abbrev YD:= @Array.ext'
abbrev YC:= @List.any_eq_true
abbrev YB:= @List.take_zero
abbrev YA:= @List.getElem?_append_right
abbrev Yz:= @List.mem_map_of_mem
abbrev Yy:= @Bool.eq_iff_iff
abbrev Yx:= @List.length_replicate
abbrev Yw:= @List.length_filter_le
abbrev Yv:= @Nat.lt_or_eq_of_le
abbrev Yu:= @List.take_length
abbrev Yt:= @List.not_mem_nil
abbrev Ys:= @List.ext_getElem
abbrev Yr:= @Nat.mul_le_mul_right
abbrev Yq:= @of_decide_eq_true
abbrev Yp:= @Nat.le_of_lt_succ
abbrev Yo:= @Array.getElem_mem
abbrev Yn:= @Option.some.inj
abbrev Ym:= @List.map_eq_nil_iff
abbrev Yl:= @List.length_pos_iff
abbrev Yk:= @List.map_map
abbrev Yj:= @List.getElem_cons_succ
abbrev Yi:= @Bool.not_eq_true
abbrev Yh:= @List.pairwise_cons
abbrev Yg:= @List.getElem_range
abbrev Yf:= @Int.tmod_eq_emod_of_nonneg
abbrev Ye:= @List.cons_prefix_cons
abbrev Yd:= @Array.getElem?_modify
abbrev Yc:= @List.mem_take_iff_getElem
abbrev Yb:= @Nat.lt_trichotomy
abbrev Ya:= @Nat.blt_eq
abbrev X9:= @List.length_drop
abbrev X8:= @Nat.beq_refl
abbrev X7:= @List.getElem_cons_drop
abbrev X6:= @List.drop_of_length_le
abbrev X5:= @List.append_of_mem
abbrev X4:= @Nat.min_eq_left
abbrev X3:= @List.find?_some
abbrev X2:= @and_assoc
abbrev X1:= @List.getElem?_toArray
abbrev X0:= @Array.any_eq_true
abbrev XZ:= @Array.getElem?_setIfInBounds_self_of_lt
abbrev XY:= @List.range_eq_range'
abbrev XW:= @List.pairwise_append
abbrev XU:= @Int.tdiv_eq_ediv_of_nonneg
abbrev XT:= @Option.getD_none
abbrev XQ:= @Nat.mul_comm
abbrev XP:= @Nat.mod_eq_of_lt
abbrev XO:= @List.mem_flatMap
abbrev XN:= @List.mem_of_find?_eq_some
abbrev XM:= @List.take_succ_cons
abbrev XL:= @List.getD_cons_succ
abbrev XK:= @not_not_intro
abbrev XJ:= @Nat.add_assoc
abbrev XI:= @Option.isSome_none
abbrev XH:= @Nat.eq_or_lt_of_le
abbrev XG:= @List.find?_eq_none
abbrev XF:= @List.filter_append
abbrev XE:= @List.length_eq_zero_iff
abbrev XD:= @Nat.div_div_eq_div_mul
abbrev XC:= @List.pairwise_map
abbrev XB:= @List.nodup_nil
abbrev XA:= @List.nodup_append
abbrev Xz:= @List.filter_eq_nil_iff
abbrev Xy:= @Bool.not_false
namespace Go.Sx
inductive AV where
 |v (x:Value)
 |any
 |agg (xs:List AV)
 |aE (xs:List AV)
 |sl (nn:Bool) (ag:Nat) (rows:List (List AV))
 |own (ag t b u c:Nat) (rows:List (List AV))
 |ms (t b o n c:Nat)
 |pc (l:List AV)
 |kQ (t:TypeId) (x:AV)
 |lp (t b o:Nat)
 |dc (t b:Nat)
 |ai (k:IntKind)
 |cl (f:FuncId) (a c:List AV)
 |fl (ag:Nat) (rows:List (List AV))
deriving Inhabited
abbrev Mem:=Nat→Nat→Option Value
def Mem.le(M M':Mem):Prop:=∀ b o v,M b o=some v→M' b o=some v
theorem Mem.le.refl(M:Mem):M.le M:=fun _ _ _ h=>h
theorem Mem.le.trans{A B C:Mem}(h:A.le B)(k:B.le C):A.le C:=fun b o v x=>k b o v (h b o v x)
inductive R(M:Mem):AV→Value→Prop
 |v (x:Value):R M (.v x) x
 |any (x:Value):R M .any x
 |agg (xs:List AV) (cs:List Value) (hl:xs.length=cs.length) (h:∀ i (h1:i<xs.length) (h2:i<cs.length),R M xs[i] cs[i]):R M (.agg xs) (.agg cs.toArray)
 |aE (xs:List AV) (cs:List Value) (hl:xs.length=cs.length) (h:∀ i (h1:i<xs.length) (h2:i<cs.length),R M xs[i] cs[i]):R M (.aE xs) (.tuple cs.toArray)
 |nil (nn:Bool) (ag:Nat) (a:Option Addr) (h:nn=true→a.isSome=true):R M (.sl nn ag []) (.slice a 0 0)
 |sl (nn:Bool) (ag:Nat) (rows:List (List AV)) (b off cap:Nat) (cs:Nat→Value) (bC:∀ i (h:i<rows.length),rows[i].length=ag)
   (hM:∀ k,k<rows.length * ag→M b (off+k)=some (cs k))
   (hR:∀ i (h:i<rows.length) j (h2:j<rows[i].length),R M rows[i][j] (cs (i * ag+j)))
   (hc:rows.length≤cap) (hm:cap≤maxLen):R M (.sl nn ag rows) (.slice (some ⟨b,off,none⟩) rows.length cap)
 |ms (t b o n c:Nat):R M (.ms t b o n c) (.slice (some ⟨b,o,none⟩) n c)
 |own (ag t b u c:Nat) (rows:List (List AV)) (off cap:Nat) (cs:Nat→Value) (bC:∀ i (h:i<rows.length),rows[i].length=ag)
   (hM:∀ k,k<rows.length * ag→M b (off+k)=some (cs k))
   (hR:∀ i (h:i<rows.length) j (h2:j<rows[i].length),R M rows[i][j] (cs (i * ag+j)))
   (hc:rows.length≤cap) (hm:cap≤maxLen) (hu:cap=0∨(off+rows.length * ag=u∧off+cap * ag≤c)) (he:0<ag):R M (.own ag t b u c rows) (.slice (some ⟨b,off,none⟩) rows.length cap)
 |pc (l:List AV) (b off:Nat) (cs:Nat→Value) (hM:∀ k,k<l.length→M b (off+k)=some (cs k))
   (hR:∀ k (h:k<l.length),R M l[k] (cs k)):R M (.pc l) (.pointer (some ⟨b,off,none⟩))
 |kQ (t:TypeId) (x:AV) (v:Value) (h:R M x v):R M (.kQ t x) (.iface t v)
 |lp (t b o:Nat):R M (.lp t b o) (.pointer (some ⟨b,o,none⟩))
 |dc (t b:Nat):R M (.dc t b) (.map (some b))
 |ai (k:IntKind) (n:Int):R M (.ai k) (.int k n)
 |cl (f:FuncId) (a c:List AV) (va vc:List Value) (hl:a.length=va.length) (fj:c.length=vc.length) (h:∀ i (h1:i<a.length) (h2:i<va.length),R M a[i] va[i])
   (h':∀ i (h1:i<c.length) (h2:i<vc.length),R M c[i] vc[i]):R M (.cl f a c) (.func (.func f) va.toArray vc.toArray)
 |fl (ag:Nat) (rows:List (List AV)) (b off:Nat) (cs:Nat→Value) (bC:∀ i (h:i<rows.length),rows[i].length=ag)
   (hM:∀ k,k<rows.length * ag→M b (off+k)=some (cs k))
   (hR:∀ i (h:i<rows.length) j (h2:j<rows[i].length),R M rows[i][j] (cs (i * ag+j)))
   (hm:rows.length≤maxLen):R M (.fl ag rows) (.slice (some ⟨b,off,none⟩) rows.length rows.length)
theorem R.mono{M M':Mem}(hM:M.le M'){x:AV}{v:Value}(h:R M x v):R M' x v:=by
 induction h with
 |v x=>exact .v x
 |any x=>exact .any x
 |agg xs cs hl _ ih=>exact .agg xs cs hl ih
 |aE xs cs hl _ ih=>exact .aE xs cs hl ih
 |nil nn ag a h=>exact .nil nn ag a h
 |sl nn ag rows b off cap cs bC hm _ hc hx ih=>exact .sl nn ag rows b off cap cs bC (fun k hk=>hM _ _ _ (hm k hk)) ih hc hx
 |ms t b o n c=>exact .ms t b o n c
 |own ag t b u c rows off cap cs bC hm _ hc hx hu he ih=>exact .own ag t b u c rows off cap cs bC (fun k hk=>hM _ _ _ (hm k hk)) ih hc hx hu he
 |pc l b off cs hm _ ih=>exact .pc l b off cs (fun k hk=>hM _ _ _ (hm k hk)) ih
 |kQ t x v _ ih=>exact .kQ t x v ih
 |lp t b o=>exact .lp t b o
 |dc t b=>exact .dc t b
 |ai k n=>exact .ai k n
 |cl f a c va vc hl fj _ _ ih iX=>exact .cl f a c va vc hl fj ih iX
 |fl ag rows b off cs bC hm _ hx ih=>exact .fl ag rows b off cs bC (fun k hk=>hM _ _ _ (hm k hk)) ih hx
def RL(M:Mem)(xs:List AV)(cs:List Value):Prop:=xs.length=cs.length∧∀ i (h1:i<xs.length) (h2:i<cs.length),R M xs[i] cs[i]
theorem RL.mono{M M':Mem}(hM:M.le M'){xs:List AV}{cs:List Value}(h:RL M xs cs):RL M' xs cs:=⟨h.1,fun i a b=>(h.2 i a b).mono hM⟩
theorem RL.nil{M:Mem}:RL M [] []:=⟨rfl,fun i h=>absurd h (by simp)⟩
theorem RL.cons{M:Mem}{x:AV}{v:Value}{xs:List AV}{cs:List Value}(h:R M x v)(t:RL M xs cs):RL M (x::xs) (v::cs):=by
 refine⟨by simp[t.1],fun i h1 h2=> ?_⟩
 cases i with
 |zero=>exact h
 |succ i=>simpa using t.2 i (by grind) (by grind)
theorem RL.bL{M:Mem}{x:AV}{xs:List AV}{cs:List Value}(h:RL M (x::xs) cs):∃ v cs',cs=v::cs'∧R M x v∧RL M xs cs':=by
 obtain⟨hl,hr⟩:=h
 cases cs with
 |nil=>grind
 |cons v cs'=>
  exact⟨v,cs',rfl,hr 0 (by simp) (by simp),by grind,fun i h1 h2=>hr (i+1) (by grind) (by grind)⟩
theorem RL.nR{M:Mem}{cs:List Value}(h:RL M [] cs):cs=[]:=by
 have:=h.1;simp at this;exact ZM this.symm
theorem RL.append{M:Mem}{xs ys:List AV}{cs ds:List Value}(h:RL M xs cs)(k:RL M ys ds):RL M (xs++ys) (cs++ds):=by
 induction xs generalizing cs with
 |nil=>obtain rfl:=h.nR;grind
 |cons x xs ih=>obtain⟨v,cs',rfl,a,b⟩:=h.bL;exact RL.cons a (ih b)
theorem RL.get{M:Mem}{xs:List AV}{cs:List Value}(h:RL M xs cs){i:Nat}{x:AV}(hx:xs[i]? =some x):∃ v,cs[i]? =some v∧R M x v:=by
 obtain⟨hi,rfl⟩:=ZE.1 hx
 have h2:i<cs.length:=h.1 ▸ hi
 exact⟨cs[i],ZX h2,h.2 i hi h2⟩
theorem RL.drop{M:Mem}{xs:List AV}{cs:List Value}(h:RL M xs cs)(n:Nat):RL M (xs.drop n) (cs.drop n):=by
 refine⟨by simp[h.1],fun i h1 h2=> ?_⟩
 simp
 exact h.2 _ _ _
theorem RL.take{M:Mem}{xs:List AV}{cs:List Value}(h:RL M xs cs)(n:Nat):RL M (xs.take n) (cs.take n):=by
 refine⟨by simp[h.1],fun i h1 h2=> ?_⟩
 simp
 exact h.2 _ _ _
theorem RL.set{M:Mem}{xs:List AV}{cs:List Value}(h:RL M xs cs)(n:Nat){x:AV}{v:Value}(hx:R M x v):RL M (xs.set n x) (cs.set n v):=by
 refine⟨by simp[h.1],fun i h1 h2=> ?_⟩
 simp only[List.getElem_set]
 split
 ·exact hx
 ·exact h.2 _ _ _
theorem RL.exact{M:Mem}(cs:List Value):RL M (cs.map .v) cs:=⟨by simp,fun i h1 h2=>by simpa using R.v _⟩
theorem R.rL{M:Mem}{xs:List AV}{v:Value}(h:R M (.agg xs) v):∃ cs,v= .agg cs.toArray∧RL M xs cs:=by
 cases h with
 |agg _ cs hl hr=>exact⟨cs,rfl,hl,hr⟩
theorem R.qf{M:Mem}{xs:List AV}{cs:List Value}(h:RL M xs cs):R M (.agg xs) (.agg cs.toArray):= .agg xs cs h.1 h.2
theorem R.Pj{M:Mem}{xs:List AV}{v:Value}(h:R M (.aE xs) v):∃ cs,v= .tuple cs.toArray∧RL M xs cs:=by
 cases h with
 |aE _ cs hl hr=>exact⟨cs,rfl,hl,hr⟩
theorem R.CY{M:Mem}{xs:List AV}{cs:List Value}(h:RL M xs cs):R M (.aE xs) (.tuple cs.toArray):= .aE xs cs h.1 h.2
theorem R.aC{M:Mem}{x v:Value}(h:R M (.v x) v):v=x:=by cases h;rfl
theorem R.ua{M:Mem}{l:List AV}{v:Value}(h:R M (.pc l) v):∃ b off,∃ cs:Nat→Value,v= .pointer (some ⟨b,off,none⟩)∧(∀ k,k<l.length→M b (off+k)=some (cs k))∧∀ k (h:k<l.length),R M l[k] (cs k):=by
 cases h with
 |pc _ b off cs h1 h2=>exact⟨b,off,cs,rfl,h1,h2⟩
structure Rows(M:Mem)(b off ag:Nat)(rows:List (List AV))(cs:Nat→Value):Prop where
 size:∀ i (h:i<rows.length),rows[i].length=ag
 mem:∀ k,k<rows.length * ag→M b (off+k)=some (cs k)
 rel:∀ i (h:i<rows.length) j (h2:j<rows[i].length),R M rows[i][j] (cs (i * ag+j))
theorem R.rM{M:Mem}{nn:Bool}{ag:Nat}{rows:List (List AV)}{v:Value}(h:R M (.sl nn ag rows) v):(∃ a:Option Addr,(nn=true→a.isSome=true)∧rows=[]∧v= .slice a 0 0)∨
  ∃ b off cap cs,v= .slice (some ⟨b,off,none⟩) rows.length cap∧Rows M b off ag rows cs∧rows.length≤cap∧cap≤maxLen:=by
 cases h with
 |nil _ _ a h=>grind
 |sl _ _ _ b off cap cs h1 h2 h3 h4 h5=>exact .inr ⟨b,off,cap,cs,rfl,⟨h1,h2,h3⟩,h4,h5⟩
theorem R.mD{M:Mem}{b off cap ag:Nat}{cs:Nat→Value}{rows:List (List AV)}(h:Rows M b off ag rows cs)(h4:rows.length≤cap)(h5:cap≤maxLen)(nn:Bool):R M (.sl nn ag rows) (.slice (some ⟨b,off,none⟩) rows.length cap):=
 .sl nn ag rows b off cap cs h.size h.mem h.rel h4 h5
theorem R.zT{M:Mem}{t b o n c:Nat}{v:Value}(h:R M (.ms t b o n c) v):v= .slice (some ⟨b,o,none⟩) n c:=by cases h;rfl
theorem R.nJ{M:Mem}{ag t b u c:Nat}{rows:List (List AV)}{v:Value}(h:R M (.own ag t b u c rows) v):
  ∃ off cap cs,v= .slice (some ⟨b,off,none⟩) rows.length cap∧Rows M b off ag rows cs∧rows.length≤cap∧cap≤maxLen∧(cap=0∨(off+rows.length * ag=u∧off+cap * ag≤c))∧0<ag:=by
 cases h with
 |own _ _ _ _ _ _ off cap cs h1 h2 h3 h4 h5 h6 h8=>exact⟨off,cap,cs,rfl,⟨h1,h2,h3⟩,h4,h5,h6,h8⟩
theorem R.qg{M:Mem}{t b u c off cap ag:Nat}{cs:Nat→Value}{rows:List (List AV)}(h:Rows M b off ag rows cs)(h4:rows.length≤cap)(h5:cap≤maxLen)(h6:cap=0∨(off+rows.length * ag=u∧off+cap * ag≤c))(h8:0<ag):
  R M (.own ag t b u c rows) (.slice (some ⟨b,off,none⟩) rows.length cap):= .own ag t b u c rows off cap cs h.size h.mem h.rel h4 h5 h6 h8
theorem R.Px{M:Mem}{ag t b u c:Nat}{rows:List (List AV)}{v:Value}(h:R M (.own ag t b u c rows) v)(nn:Bool):R M (.sl nn ag rows) v:=by
 obtain⟨off,cap,cs,rfl,hr,h4,h5,_⟩:=h.nJ
 exact R.mD hr h4 h5 nn
theorem R.Pf{M:Mem}{ag:Nat}{rows:List (List AV)}{v:Value}(h:R M (.fl ag rows) v):∃ b off cs,v= .slice (some ⟨b,off,none⟩) rows.length rows.length∧Rows M b off ag rows cs∧rows.length≤maxLen:=by
 cases h with
 |fl _ _ b off cs h1 h2 h3 h4=>exact⟨b,off,cs,rfl,⟨h1,h2,h3⟩,h4⟩
theorem R.agu{M:Mem}{b off ag:Nat}{cs:Nat→Value}{rows:List (List AV)}(h:Rows M b off ag rows cs)(h5:rows.length≤maxLen):R M (.fl ag rows) (.slice (some ⟨b,off,none⟩) rows.length rows.length):=
 .fl ag rows b off cs h.size h.mem h.rel h5
theorem R.LX{M:Mem}{ag:Nat}{rows:List (List AV)}{v:Value}(h:R M (.fl ag rows) v)(nn:Bool):R M (.sl nn ag rows) v:=by
 obtain⟨b,off,cs,rfl,hr,h5⟩:=h.Pf
 exact R.mD hr (ZR _) h5 nn
theorem R.aLA{M:Mem}{ag:Nat}{rows:List (List AV)}{v:Value}(h:R M (.sl true ag rows) v):R M (.sl false ag rows) v:=by
 rcases h.rM with⟨a,_,rfl,rfl⟩|⟨b,off,cap,cs,rfl,hr,h4,h5⟩
 ·exact .nil _ _ _ (fun h=>nomatch h)
 ·exact R.mD hr h4 h5 _
theorem R.nI{M:Mem}{t b o:Nat}{v:Value}(h:R M (.lp t b o) v):v= .pointer (some ⟨b,o,none⟩):=by cases h;rfl
theorem R.tZ{M:Mem}{t b:Nat}{v:Value}(h:R M (.dc t b) v):v= .map (some b):=by cases h;rfl
theorem R.agV{M:Mem}{k:IntKind}{v:Value}(h:R M (.ai k) v):∃ n,v= .int k n:=by cases h with|ai _ n=>exact⟨n,rfl⟩
theorem R.aNF{M:Mem}{f:FuncId}{a c:List AV}{v:Value}(h:R M (.cl f a c) v):∃ va vc:List Value,v= .func (.func f) va.toArray vc.toArray∧RL M a va∧RL M c vc:=by
 cases h with
 |cl _ _ _ va vc hl fj h h'=>exact⟨va,vc,rfl,⟨hl,h⟩,⟨fj,h'⟩⟩
theorem R.agt{M:Mem}{f:FuncId}{a c:List AV}{va vc:List Value}(h:RL M a va)(h':RL M c vc):R M (.cl f a c) (.func (.func f) va.toArray vc.toArray):= .cl f a c va vc h.1 h'.1 h.2 h'.2
theorem R.agW{M:Mem}{t:TypeId}{x:AV}{v:Value}(h:R M (.kQ t x) v):∃ u,v= .iface t u∧R M x u:=by
 cases h with
 |kQ _ _ u h=>exact⟨u,rfl,h⟩
theorem agx{i n ag j:Nat}(hi:i<n)(hj:j<ag):i * ag+j<n * ag:=by
 have:(i+1) * ag≤n * ag:=Yr _ hi
 rw[Nat.succ_mul]at this
 omega
theorem Rows.mono{M M':Mem}(hM:M.le M'){b off ag:Nat}{rows:List (List AV)}{cs:Nat→Value}(h:Rows M b off ag rows cs):Rows M' b off ag rows cs:=
 ⟨h.size,fun k hk=>hM _ _ _ (h.mem k hk),fun i hi j hj=>(h.rel i hi j hj).mono hM⟩
theorem Rows.sub{M:Mem}{b off ag:Nat}{rows:List (List AV)}{cs:Nat→Value}(h:Rows M b off ag rows cs)(lo hi:Nat)(hh:hi≤rows.length)(hl:lo≤hi):
  Rows M b (off+lo * ag) ag ((rows.take hi).drop lo) (fun k=>cs (lo * ag+k)):=by
 have hlen:((rows.take hi).drop lo).length=hi-lo:=by grind
 refine⟨fun i h1=> ?_,fun k hk=> ?_,fun i h1 j h2=> ?_⟩
 ·simp
  exact h.size _ _
 ·rw[hlen]at hk
  have hb:lo * ag+k<rows.length * ag:=by
   have h1:(hi-lo) * ag+lo * ag=hi * ag:=by rw[← YT];grind
   have h2:hi * ag≤rows.length * ag:=Yr _ hh
   omega
  rw[XJ]
  exact h.mem _ hb
 ·have h3:lo+i<rows.length:=by grind
  have hj:j<rows[lo+i].length:=by grind
  have:=h.rel (lo+i) h3 j hj
  grind
theorem Rows.pc{M:Mem}{b off ag:Nat}{rows:List (List AV)}{cs:Nat→Value}(h:Rows M b off ag rows cs)(i:Nat)(hi:i<rows.length):
  R M (.pc (rows.getD i [])) (.pointer (some ⟨b,off+i * ag,none⟩)):=by
 have e:rows.getD i []=rows[i]:=by simp[hi]
 rw[e]
 refine .pc _ b _ (fun k=>cs (i * ag+k)) (fun k hk=> ?_) (fun k hk=>h.rel i hi k hk)
 rw[h.size i hi]at hk
 rw[XJ]
 exact h.mem _ (agx hi hk)
def AV.cells? :AV→Option (List AV)
 | .v (.agg cs)=>some (cs.toList.map .v)
 | .v (.tuple _)=>none
 | .agg xs=>some xs
 | .any=>none
 | .aE _=>none
 |x=>some [x]
def AV.mQ :AV→Option (List AV)
 | .v (.agg cs)=>some (cs.toList.map .v)
 | .agg xs=>some xs
 |_=>none
theorem R.Ev{M:Mem}{x:AV}{v:Value}{l:List AV}(h:R M x v)(hl:x.mQ =some l):∃ cs,v= .agg cs∧RL M l cs.toList:=by
 cases h with
 |v=>
  cases v with
  |agg cs=>simp[AV.mQ]at hl;subst hl;exact⟨cs,rfl,RL.exact _⟩
  |_=>simp[AV.mQ]at hl
 |agg xs cs fj hr=>simp[AV.mQ]at hl;subst hl;exact⟨cs.toArray,rfl,fj,hr⟩
 |_=>simp[AV.mQ]at hl
def AV.one:AV→Bool
 | .v x=>x.oneCell'
 | .any| .agg _| .aE _=>false
 |_=>true
theorem R.cells{M:Mem}{x:AV}{v:Value}{l:List AV}(h:R M x v)(hl:x.cells? =some l):RL M l v.cells.toList:=by
 cases h with
 |v=>
  cases v with
  |agg cs=>simp[AV.cells?]at hl;subst hl;exact RL.exact _
  |tuple _=>simp[AV.cells?]at hl
  |_=>simp only[AV.cells?,ZN]at hl;subst hl;exact RL.cons (.v _) RL.nil
 |any=>simp[AV.cells?]at hl
 |agg xs cs fj hr=>simp[AV.cells?]at hl;subst hl;exact⟨fj,hr⟩
 |aE=>simp[AV.cells?]at hl
 |nil nn ag a h=>simp only[AV.cells?,ZN]at hl;subst hl;exact RL.cons (.nil nn ag a h) RL.nil
 |sl nn ag rows b off cap cs a1 a2 a3 a4 a5=>simp only[AV.cells?,ZN]at hl;subst hl;exact RL.cons (.sl nn ag rows b off cap cs a1 a2 a3 a4 a5) RL.nil
 |ms t b o n c=>simp only[AV.cells?,ZN]at hl;subst hl;exact RL.cons (.ms t b o n c) RL.nil
 |own ag t b u c rows off cap cs a1 a2 a3 a4 a5 a6 a8=>simp only[AV.cells?,ZN]at hl;subst hl;exact RL.cons (.own ag t b u c rows off cap cs a1 a2 a3 a4 a5 a6 a8) RL.nil
 |pc l b off cs a1 a2=>simp only[AV.cells?,ZN]at hl;subst hl;exact RL.cons (.pc l b off cs a1 a2) RL.nil
 |kQ t x v a=>simp only[AV.cells?,ZN]at hl;subst hl;exact RL.cons (.kQ t x v a) RL.nil
 |lp t b o=>simp only[AV.cells?,ZN]at hl;subst hl;exact RL.cons (.lp t b o) RL.nil
 |dc t b=>simp only[AV.cells?,ZN]at hl;subst hl;exact RL.cons (.dc t b) RL.nil
 |ai k n=>simp only[AV.cells?,ZN]at hl;subst hl;exact RL.cons (.ai k n) RL.nil
 |cl f a c va vc a1 a2 a3 a4=>simp only[AV.cells?,ZN]at hl;subst hl;exact RL.cons (.cl f a c va vc a1 a2 a3 a4) RL.nil
 |fl ag rows b off cs a1 a2 a3 a4=>simp only[AV.cells?,ZN]at hl;subst hl;exact RL.cons (.fl ag rows b off cs a1 a2 a3 a4) RL.nil
theorem R.one{M:Mem}{x:AV}{v:Value}(h:R M x v)(hl:x.one=true):v.oneCell'=true:=by
 cases h<;>simp_all [AV.one,Value.oneCell']
inductive aG where
 |cells (l:List AV)
 |tail (u c:Nat)
 |map (es:List (Value×Nat×AV)) (k:Nat)
deriving Inhabited
abbrev ah:=List (Nat×AV)
abbrev Store:=List (Nat×Nat×aG)
def lk:ah→Nat→AV
 |[],_=> .any
 |(i,x)::r,j=>bif Nat.beq i j then x else lk r j
def bo:Store→Nat→Option (Nat×aG)
 |[],_=>none
 |(i,b,x)::r,j=>bif Nat.beq i j then some (b,x)else bo r j
def BlkOK(M:Mem)(w:World)(b:Nat):aG→Prop
 | .cells l=>(∀ o,M b o=none)∧∃ cs t,w.heap[b]? =some (.cells cs t (0,0))∧RL M l cs.toList
 | .tail u c=>(∀ o,u≤o→M b o=none)∧∃ cs t,w.heap[b]? =some (.cells cs t (0,0))∧cs.size=c∧u≤c
 | .map es k=>(∀ o,M b o=none)∧∃ l:List MapEntry,w.heap[b]? =some (.map l.toArray k)∧l.map (fun e=>(e.key,e.born))=es.map (fun e=>(e.1,e.2.1))∧RL M (es.map (·.2.2)) (l.map (·.val))
class Glob (P:Program) where
 av:Nat→Option (List AV)
 gw:World→Prop
 df:List Deferred:=[]
instance (priority:=low) Glob.empty (P:Program):Glob P:=⟨fun _=>none,fun _=>True,[]⟩
class ku (P:Program) [Glob P]:Prop where
 h:Glob.df P=[]
instance (priority:=low) ku.empty (P:Program): @ku P (Glob.empty P):= @ku.mk P (Glob.empty P) rfl
structure Base extends World where
 bm:Mem
instance:Coe Base World:=⟨Base.toWorld⟩
structure Inv(P:Program)[Glob P](M:Mem)(w0:Base)(σ:Store)(w:World):Prop where
 os:w.os=w0.os
 tape:w.tape=w0.tape
 output:w.output=w0.output
 size:w0.heap.size≤w.heap.size
 old:∀ k,k<w0.heap.size→w.heap[k]? =w0.heap[k]?
 cQ:∀ b o v,M b o=some v→w.cell? ⟨b,o,none⟩=some v
 st:∀ e∈σ,w0.heap.size≤e.2.1∧BlkOK M w e.2.1 e.2.2
 nd:(σ.map (·.2.1)).Nodup
 gl:∀ g l,Glob.av P g=some l→R M (.pc l) (.pointer (some ⟨g,0,none⟩))
 gw:Glob.gw P w0
 bm:∀ b o v,M b o=some v→b<w0.heap.size→w0.bm b o=some v
def bW(M:Mem)(rg:ah)(a:Act):Prop:=∀ i,R M (lk rg i) (a.tmps.getD i undef)
theorem bW.mono{M M':Mem}(hM:M.le M'){rg:ah}{a:Act}(h:bW M rg a):bW M' rg a:=fun i=>(h i).mono hM
def ev(rg:ah):Operand→AV
 | .tmp t=>lk rg t
 | .const v=> .v v
 | .global g=> .v (.pointer (some ⟨g,0,none⟩))
 | .func f=> .v (.func (.func f) #[] #[])
theorem bW.ev{M:Mem}{rg:ah}{a:Act}(h:bW M rg a)(x:Operand):R M (ev rg x) (a.eval x):=by
 cases x with
 |tmp t=>exact h t
 |const v=>exact .v v
 |global g=>exact .v _
 |func f=>exact .v _
def cr(d:Option Nat)(x:AV)(rg:ah):ah:=match d with|some d=>(d,x)::rg|none=>rg
theorem bW.put{M:Mem}{rg:ah}{a:Act}(h:bW M rg a)(d:Option Nat){x:AV}{v:Value}(hd:∀ t,d=some t→t<a.tmps.size)(hx:R M x v):bW M (cr d x rg) (a.put d v):=by
 cases d with
 |none=>exact h
 |some d=>
  intro i
  simp only[cr,lk,Act.put]
  by_cases e:d=i
  ·simp_all
  ·have hb:Nat.beq d i=false:=by rw[← Yi,Nat.beq_eq];grind
   have:(a.tmps.setIfInBounds d v).getD i undef=a.tmps.getD i undef:=by
    simp_all
   rw[hb,this]
   exact h i
theorem Act.size_put(a:Act)(d:Option Nat)(v:Value):(a.put d v).tmps.size=a.tmps.size:=by cases d<;>simp[Act.put]
theorem Act.x2(a:Act)(d:Option Nat)(v:Value):(a.put d v).defers=a.defers:=by cases d<;>simp[Act.put]
def gB:List Nat→ah→ah
 |[],_=>[]
 |i::l,rg=>(i,lk rg i)::gB l rg
theorem bW.gB{M:Mem}{rg:ah}{a:Act}(h:bW M rg a)(l:List Nat):bW M (gB l rg) a:=by
 induction l with
 |nil=>exact fun i=> .any _
 |cons t l ih=>
  intro i
  simp only[Sx.gB,lk]
  cases hb:Nat.beq t i with
  |true=>rw[Zm hb];exact h i
  |false=>exact ih i
theorem Inv.drew{P:Program}[Glob P]{M:Mem}{w0:Base}{σ:Store}{w:World}(h:Inv P M w0 σ w)(n:Nat):Inv P M w0 σ {w with drawn:=n}:=
 ⟨h.os,h.tape,h.output,h.size,h.old,h.cQ,h.st,h.nd,h.gl,h.gw,h.bm⟩
theorem BlkOK.lt{M:Mem}{w:World}{b:Nat}{x:aG}(h:BlkOK M w b x):b<w.heap.size:=by
 cases x with
 |cells l=>obtain⟨_,cs,t,hh,_⟩:=h;grind
 |tail u c=>obtain⟨_,cs,t,hh,_⟩:=h;grind
 |map es k=>obtain⟨_,l,hh,_⟩:=h;grind
theorem Inv.zP{P:Program}[Glob P]{M:Mem}{w0:Base}{σ:Store}{w:World}(h:Inv P M w0 σ w){e:Nat×Nat×aG}(he:e∈σ):e.2.1<w.heap.size:=(h.st e he).2.lt
theorem Inv.fresh{P:Program}[Glob P]{M:Mem}{w0:Base}{σ:Store}{w:World}(h:Inv P M w0 σ w):w.heap.size∉σ.map (·.2.1):=by
 intro hm
 obtain⟨e,he,h2⟩:=Y9.1 hm
 have:=h.zP he
 omega
theorem rJ:∀ {σ:Store} {t b:Nat} {x:aG},bo σ t=some (b,x)→(t,b,x)∈σ
 |[],t,b,x,h=>by cases h
 |(i,b',x')::r,t,b,x,h=>by
  simp only[bo]at h
  cases hb:Nat.beq i t with
  |true=>
   simp_all
  |false=>rw[hb]at h;exact ZL _ (rJ h)
def eB:Store→Nat→Nat→aG→Store
 |[],_,_,_=>[]
 |(i,b',x')::r,t,b,x=>bif Nat.beq i t then(t,b,x)::r else(i,b',x')::eB r t b x
theorem ur:∀ {σ:Store} {t b:Nat} {x:aG},bo σ t=some (b,x)→∃ pre post,σ=pre++(t,b,x)::post∧∀ b' x',eB σ t b' x'=pre++(t,b',x')::post
 |[],t,b,x,h=>by cases h
 |(i,b0,x0)::r,t,b,x,h=>by
  simp only[bo]at h
  cases hb:Nat.beq i t with
  |true=>
   refine⟨[],r,by simp_all,fun b' x'=>by simp only[eB,hb,cond_true,Y0]⟩
  |false=>
   rw[hb]at h
   obtain⟨pre,post,h1,h2⟩:=ur h
   exact⟨(i,b0,x0)::pre,post,by grind,fun b' x'=>by simp only[eB,hb,cond_false,h2,Ze]⟩
theorem Inv.BJ{P:Program}[Glob P]{M:Mem}{w0:Base}{σ:Store}{w:World}(h:Inv P M w0 σ w)(o:Nat):M w.heap.size o=none:=by
 cases e:M w.heap.size o with
 |none=>rfl
 |some x=>have:=World.block_lt_of_cell? _ _ (h.cQ _ _ _ e);grind
theorem F5(w:World)(o:Obj)(k:Nat)(h:k<w.heap.size):(w.alloc o).heap[k]? =w.heap[k]? :=by
 show(w.heap.push o)[k]? =_
 grind
theorem heap_alloc_new(w:World)(o:Obj):(w.alloc o).heap[w.heap.size]? =some o:=by
 show(w.heap.push o)[w.heap.size]? =_
 rw[Array.getElem?_push,Z3 rfl]
theorem BlkOK.heap{M:Mem}{w w':World}{b:Nat}{x:aG}(h:BlkOK M w b x)(e:w'.heap[b]? =w.heap[b]?):BlkOK M w' b x:=by
 cases x with
 |cells l=>obtain⟨a,cs,t,hh,r⟩:=h;exact⟨a,cs,t,e.trans hh,r⟩
 |tail u c=>obtain⟨a,cs,t,hh,r⟩:=h;exact⟨a,cs,t,e.trans hh,r⟩
 |map es k=>obtain⟨a,l,hh,r⟩:=h;exact⟨a,l,e.trans hh,r⟩
theorem Inv.alloc{P:Program}[Glob P]{M:Mem}{w0:Base}{σ:Store}{w:World}(h:Inv P M w0 σ w)(o:Obj):Inv P M w0 σ (w.alloc o):=by
 refine⟨h.os,h.tape,h.output,by simp;have:=h.size;omega,fun k hk=> ?_,fun b o' v hv=> ?_,fun e he=> ?_,h.nd,h.gl,h.gw,h.bm⟩
 ·rw[F5 _ _ _ (YE hk h.size)];exact h.old k hk
 ·have:=h.cQ b o' v hv
  rw[World.cell?_alloc_lt _ _ _ (World.block_lt_of_cell? _ _ this)];grind
 ·exact⟨(h.st e he).1,(h.st e he).2.heap (F5 _ _ _ (h.zP he))⟩
theorem Inv.box{P:Program}[Glob P]{M:Mem}{w0:Base}{σ:Store}{w:World}(h:Inv P M w0 σ w){cs:List Value}{l:List AV}(t:TypeId)(hl:RL M l cs)(tag:Nat):
  Inv P M w0 ((tag,w.heap.size,.cells l)::σ) (w.alloc (.cells cs.toArray t)):=by
 have h':=h.alloc (.cells cs.toArray t)
 refine⟨h'.os,h'.tape,h'.output,h'.size,h'.old,h'.cQ,fun e he=> ?_,?_,h'.gl,h'.gw,h'.bm⟩
 ·rcases ZQ.1 he with rfl|he
  ·exact⟨h.size,h.BJ,cs.toArray,t,heap_alloc_new _ _,by grind⟩
  ·exact h'.st e he
 ·simp only[ZC,YX]
  exact⟨h.fresh,h.nd⟩
end Go.Sx
namespace Go.Sx
open Go.RowKit
inductive jg where
 |ret (x:AV)
 |lP (ch:List PanicEntry)
def sy(M:Mem):jg→Ending→Prop
 | .ret x,.returned v=>R M x v
 | .lP ch,.panicked EN=>EN=ch
 |_,_=>False
def Spec(P:Program)[Glob P](f:FuncId)(as:List AV)(σ:Store)(Q:jg→Store→Prop):Prop:=
 ∀ (M:Mem) (w0:Base) (w:World) (cs:List Value),Inv P M w0 σ w→RL M as cs→
  Calls P f cs.toArray w fun e w'=>∃ M' r af,M.le M'∧Inv P M' w0 af w'∧sy M' r e∧Q r af
structure Pure(P:Program)[Glob P](f:FuncId)(as:List AV)(r:AV):Prop where
 sp:∀ σ,Spec P f as σ fun r' af=>r'= .ret r∧af=σ
def qH(P:Program)[Glob P](f:FuncId)(as:List AV)(σ:Store)(K:AV→Store→Prop)(E:List PanicEntry→Store→Prop):Prop:=
 ∃ Q:jg→Store→Prop,Spec P f as σ Q∧(∀ x af,Q (.ret x) af→K x af)∧(∀ ch af,Q (.lP ch) af→E ch af)
theorem callP_congr{P:Program}[Glob P]{f:FuncId}{as as':List AV}{σ:Store}{K:AV→Store→Prop}{E:List PanicEntry→Store→Prop}(h:as=as'):qH P f as σ K E=qH P f as' σ K E:=by rw[h]
theorem uX{P:Program}[Glob P]{f:FuncId}{as:List AV}{σ:Store}{K:AV→Store→Prop}{E:List PanicEntry→Store→Prop}{r:AV}(h:Pure P f as r)(k:K r σ):qH P f as σ K E:=
 ⟨_,h.sp σ,fun _ _ ⟨e,e'⟩=>by grind,fun _ _ ⟨e,_⟩=>by cases e⟩
def jI(P:Program)[Glob P](f:FuncId):Bool:=
 match P.funcs[f]? with
 |some fn=>fn.name != "runtime.NumGoroutine" && fn.body.isSome
 |none=>false
inductive uL where
 |int|str|bool
deriving DecidableEq
inductive xA where
 |bool|slice|map|func|ptr
deriving DecidableEq
inductive TI where
 |str
 |int (k:IntKind)
 |sl (e:TypeId)
 |mp (k v:TypeId)
 |other
deriving DecidableEq
def jB:Option TypeDesc→TI
 |some .string=> .str
 |some (.int k)=> .int k
 |some (.slice e)=> .sl e
 |some (.map k v)=> .mp k v
 |_=> .other
def vg(P:Program)(t:TypeId):TI:=match P.underlying t with
 |some (.slice e)=>jB (P.underlying e)
 |_=> .other
def Hj(P:Program)(t:TypeId):TI:=match P.underlying t with
 |some (.map k _)=>jB (P.underlying k)
 |_=> .other
def fq(P:Program):Op→List TI
 | .convert s d _=>[jB (P.underlying s),vg P s,jB (P.underlying d),vg P d]
 | .slice t _ _ _ _=>[jB (P.underlying t)]
 | .insert t _ _ _| .mapUpdate t _ _ _| .mapEntry t _ _| .entryStore t _ _ _| .lookup t _ _ _=>[jB (P.underlying t),Hj P t]
 | .makeSlice t _ _=>[jB (P.underlying t),vg P t]
 |_=>[]
theorem DC{d:Option TypeDesc}(h:jB d= .str):d=some .string:=by unfold jB at h;split at h<;>first|rfl|cases h
theorem IY{d:Option TypeDesc}{k:IntKind}(h:jB d= .int k):d=some (.int k):=by unfold jB at h;split at h<;>first|(cases h;rfl)|cases h
theorem IZ{d:Option TypeDesc}{e:TypeId}(h:jB d= .sl e):d=some (.slice e):=by unfold jB at h;split at h<;>first|(cases h;rfl)|cases h
theorem wU{d:Option TypeDesc}{k v:TypeId}(h:jB d= .mp k v):d=some (.map k v):=by unfold jB at h;split at h<;>first|(cases h;rfl)|cases h
inductive aB where
 |mv (x:Operand)
 |pick (c a b:Operand)
 |box (t:TypeId) (x:Operand)
 |alloc (t:TypeId) (z:Value)
 |build (z:List Value) (parts:List (Nat×Nat×Operand))
 |br (t:TypeId) (ag:Nat) (parts:List Operand)
 |load (agg:Bool) (n:Nat) (x:Operand)
 |store (n:Nat) (x v:Operand)
 |oY (x:Operand)
 |bin (op:BinOp) (x y:Operand)
 |ic (neg:Bool) (k:xA) (x y:Operand)
 |eqs (neg:Bool) (ks:List uL) (x y:Operand)
 |un (op:UnOp) (x:Operand)
 |lq (k:IntKind) (x:Operand)
 |pG (x:Operand)
 |qh (t:TypeId) (x:Operand)
 |er (fn:Fn) (first captured:List Operand)
 |slice (ag:Nat) (x:Operand) (lo hi:Option Operand)
 |kE (off:Nat) (x:Operand)
 |field (agg:Bool) (off n:Nat) (x:Operand)
 |eY (ag:Nat) (x i:Operand)
 |lJ (len ag:Nat) (x i:Operand)
 |idxs (x i:Operand)
 |extract (x:Operand) (i:Nat)
 |call (f:FuncId) (args:List Operand)
 |gz (f:Operand) (args:List Operand)
 |len (str:Bool) (x:Operand)
 |append (t:TypeId) (ag bytes:Nat) (z:List Value) (x y:Operand)
 |max2 (x y:Operand)
 |min2 (x y:Operand)
 |bS (op:Op) (ty:TypeId) (ti:List TI) (args:List Operand)
 |exts (op:Op) (ty:TypeId) (ti:List TI) (args:List Operand)
 |panic (x:Operand)
def over{α:Type}(l:List α)(o:Nat)(l':List α):List α:=l.take o++l'++l.drop (o+l'.length)
theorem RL.over{M:Mem}{xs xs':List AV}{cs cs':List Value}(h:RL M xs cs)(k:RL M xs' cs')(o:Nat):RL M (over xs o xs') (over cs o cs'):=by
 unfold Sx.over
 rw[k.1]
 exact RL.append (RL.append (h.take o) k) (h.drop _)
def nS(op:BinOp):Value→Value→(Value→Prop)→Prop
 | .int k a,.int k' b,K=>
  match op with
  | .add=>k=k'∧K (.int k (k.wrap (a+b)))
  | .sub=>k=k'∧K (.int k (k.wrap (a-b)))
  | .mul=>k=k'∧K (.int k (k.wrap (a * b)))
  | .quo=>k=k'∧b≠0∧K (.int k (k.wrap (a.tdiv b)))
  | .rem=>k=k'∧b≠0∧K (.int k (a.tmod b))
  | .eql=>k=k'∧K (.bool (decide (a=b)))
  | .neq=>k=k'∧K (.bool (!decide (a=b)))
  | .lss=>k=k'∧K (.bool (decide (a<b)))
  | .leq=>k=k'∧K (.bool (decide (a≤b)))
  | .gtr=>k=k'∧K (.bool (decide (b<a)))
  | .geq=>k=k'∧K (.bool (decide (b≤a)))
  | .and=>k=k'∧K (.int k (bits .and k a b))
  | .or=>k=k'∧K (.int k (bits .or k a b))
  | .xor=>k=k'∧K (.int k (bits .xor k a b))
  | .andNot=>k=k'∧K (.int k (bits .andNot k a b))
  | .shl=>0≤b∧b≤k.bits∧K (.int k (k.wrap (a * 2 ^ b.toNat)))
  | .shr=>0≤b∧b≤k.bits∧K (.int k (a / 2 ^ b.toNat))
 | .string a,.string b,K=>
  match op with
  | .add=>a.size+b.size≤9223372036854775807∧K (.string (a++b))
  | .eql=>K (.bool (decide (a=b)))
  | .neq=>K (.bool (!decide (a=b)))
  | .lss=>K (.bool (Op.bytesLess a.toList b.toList))
  | .leq=>K (.bool (Op.bytesLess a.toList b.toList || decide (a=b)))
  | .gtr=>K (.bool (!(Op.bytesLess a.toList b.toList || decide (a=b))))
  | .geq=>K (.bool (!Op.bytesLess a.toList b.toList))
  |_=>False
 |_,_,_=>False
def Bz:xA→AV→AV→Option Bool
 | .bool,.v (.bool a),.v (.bool b)=>some (a == b)
 | .slice,.sl true _ _,.v (.slice none _ _)=>some false
 | .slice,.v (.slice none _ _),.sl true _ _=>some false
 | .slice,.own ..,.v (.slice none _ _)=>some false
 | .slice,.v (.slice none _ _),.own .. =>some false
 | .slice,.ms ..,.v (.slice none _ _)=>some false
 | .slice,.v (.slice none _ _),.ms .. =>some false
 | .slice,.v (.slice (some _) _ _),.v (.slice none _ _)=>some false
 | .slice,.v (.slice none _ _),.v (.slice (some _) _ _)=>some false
 | .slice,.v (.slice none _ _),.v (.slice none _ _)=>some true
 | .map,.v (.map (some _)),.v (.map none)=>some false
 | .map,.v (.map none),.v (.map (some _))=>some false
 | .map,.v (.map none),.v (.map none)=>some true
 | .func,.v (.func ..),.v .nilFunc=>some false
 | .func,.v .nilFunc,.v (.func ..)=>some false
 | .func,.v .nilFunc,.v .nilFunc=>some true
 | .ptr,.lp ..,.v (.pointer none)=>some false
 | .ptr,.v (.pointer none),.lp .. =>some false
 | .ptr,.v (.pointer (some _)),.v (.pointer none)=>some false
 | .ptr,.v (.pointer none),.v (.pointer (some _))=>some false
 | .ptr,.v (.pointer none),.v (.pointer none)=>some true
 |_,_,_=>none
def tS:uL→AV→AV→Option Bool
 | .int,.v (.int k a),.v (.int k' b)=>if k=k' then some (decide (a=b))else none
 | .str,.v (.string a),.v (.string b)=>some (decide (a=b))
 | .bool,.v (.bool a),.v (.bool b)=>some (a == b)
 |_,_,_=>none
def q5:List uL→List AV→List AV→Option Bool
 |[],[],[]=>some true
 |k::ks,x::xs,y::ys=>match tS k x y with
  |some b=>(q5 ks xs ys).map (b && ·)
  |none=>none
 |_,_,_=>none
def I5:UnOp→Value→Option Value
 | .neg,.int k n=>some (.int k (k.wrap (0-n)))
 | .not,.bool b=>some (.bool !b)
 |_,_=>none
def bD(rg:ah):List Operand→List AV
 |[]=>[]
 |x::l=>ev rg x::bD rg l
def x4:List AV→Option (List Value)
 |[]=>some []
 | .v x::l=>(x4 l).map (x::·)
 |_::_=>none
def mS:List AV→Option (List Value)
 |[]=>some []
 | .v x::l=>(mS l).map (x::·)
 | .lp _ b o::l=>(mS l).map (.pointer (some ⟨b,o,none⟩)::·)
 | .agg xs::l=>match x4 xs with
  |some cs=>(mS l).map (.agg cs.toArray::·)
  |none=>none
 |_::_=>none
def vq:List AV→List (Nat×Nat×AV)→Option (List AV)
 |c,[]=>some c
 |c,(off,n,x)::rest=>match x.cells? with
  |some l=>if l.length=n∧off+n≤c.length then vq (over c off l) rest else none
  |none=>none
def pK(rg:ah):List (Nat×Nat×Operand)→List (Nat×Nat×AV)
 |[]=>[]
 |(o,n,x)::l=>(o,n,ev rg x)::pK rg l
def rowsOf(ag:Nat):List AV→Option (List (List AV))
 |[]=>some []
 |x::l=>match x.cells? with
  |some r=>if r.length=ag then(rowsOf ag l).map (r::·)else none
  |none=>none
def nD :Option AV→Option (Option Int)
 |none=>some none
 |some (.v (.int _ i))=>some (some i)
 |_=>none
def dn(b:UInt8):List AV:=[.v (.int .u8 b.toNat)]
def ew(ag:Nat):AV→Option (List (List AV))
 | .sl _ e rows=>if e=ag then some rows else none
 | .own e _ _ _ _ rows=>if e=ag then some rows else none
 | .v (.slice none 0 0)=>some []
 | .v (.string s)=>if ag=1 then some (s.data.toList.map dn)else none
 |_=>none
def wq(lt:Bool):Value→Value→Option Value
 | .int k x,.int k' y=>if k=k' then some (.int k (if lt then(if y<x then y else x)else(if y>x then y else x)))else none
 |_,_=>none
def Sz:Next→Value→Prop
 | .value v,u=>u=v
 | .skip,u=>u=undef
 |_,_=>False
def jf(P:Program)[Glob P](op:Op)(ty:TypeId)(ti:List TI)(args:List Operand)(as:List AV)(σ:Store)(Q:AV→Store→Prop):Prop:=
 fq P op=ti→∀ (M:Mem) (w0:Base) (w:World) (ρ:Operand→Value),Inv P M w0 σ w→RL M as (args.map ρ)→
  ∃ nx w' M' x v af,(execOp ρ ⟨none,op,ty, "",#[],none⟩).run P w= .ok nx w'∧Sz nx v∧M.le M'∧Inv P M' w0 af w'∧R M' x v∧Q x af
structure sw(P:Program)[Glob P](op:Op)(ty:TypeId)(ti:List TI)(args:List Operand)(as:List AV)(r:AV):Prop where
 sp:∀ σ,jf P op ty ti args as σ fun x af=>x=r∧af=σ
theorem jf.mono{P:Program}[Glob P]{op:Op}{ty:TypeId}{ti:List TI}{args:List Operand}{as:List AV}{σ:Store}{Q Q':AV→Store→Prop}(h:jf P op ty ti args as σ Q)(k:∀ x af,Q x af→Q' x af):jf P op ty ti args as σ Q':=
 fun db M w0 w ρ hI hR=>let⟨nx,w',M',x,v,af,h1,h2,h3,h4,h5,h6⟩:=h db M w0 w ρ hI hR;⟨nx,w',M',x,v,af,h1,h2,h3,h4,h5,k _ _ h6⟩
def ak(P:Program)[Glob P](cfg:Nat→Nat)(d:Option Nat)(rg:ah)(σ:Store)(K:AV→Store→Prop)(E:List PanicEntry→Store→Prop):aB→Prop
 | .mv x=>K (ev rg x) σ
 | .pick c a b=>match ev rg c with
  | .v (.bool t)=>K (if t then ev rg a else ev rg b) σ
  |_=>False
 | .box _ x=>match(ev rg x).cells? with
  |some l=>∀ b,K (.lp (d.getD 0) b 0) ((d.getD 0,b,.cells l)::σ)
  |none=>False
 | .alloc _ z=>∀ b,K (.lp (d.getD 0) b 0) ((d.getD 0,b,.cells (z.cells.toList.map .v))::σ)
 | .build z parts=>match vq (z.map .v) (pK rg parts)with
  |some l=>K (.agg l) σ
  |none=>False
 | .br _ ag parts=>match rowsOf ag (bD rg parts)with
  |some rows=>rows.length≤1000000∧match cfg (d.getD 0)with
   |0=>K (.sl true ag rows) σ
   |1=>0<ag∧∀ b,K (.own ag (d.getD 0) b (rows.length * ag) (rows.length * ag) rows) ((d.getD 0,b,.tail (rows.length * ag) (rows.length * ag))::σ)
   |3=>K (.fl ag rows) σ
   |_=>∀ b,K (.ms (d.getD 0) b 0 rows.length rows.length) ((d.getD 0,b,.cells rows.flatten)::σ)
  |none=>False
 | .load agg n x=>match ev rg x with
  | .lp t b o=>match bo σ t with
   |some (b',.cells l)=>b=b'∧if agg then o+n≤l.length∧K (.agg ((l.drop o).take n)) σ else match l[o]? with
    |some y=>K y σ
    |none=>False
   |_=>False
  | .pc l=>if agg then n≤l.length∧K (.agg (l.take n)) σ else match l[0]? with
    |some y=>K y σ
    |none=>False
  | .v (.pointer (some ⟨g,0,none⟩))=>match Glob.av P g with
   |some l=>if agg then n≤l.length∧K (.agg (l.take n)) σ else match l[0]? with
    |some y=>K y σ
    |none=>False
   |none=>False
  |_=>False
 | .store n x y=>match ev rg x,(ev rg y).cells? with
  | .lp t b o,some l'=>match bo σ t with
   |some (b',.cells l)=>b=b'∧l'.length=n∧l'.all AV.one=true∧o+n≤l.length∧K (.v undef) (eB σ t b (.cells (over l o l')))
   |_=>False
  |_,_=>False
 | .oY x=>match ev rg x with
  | .v (.pointer (some a))=>K (.v (.pointer (some a))) σ
  | .lp t b o=>K (.lp t b o) σ
  | .pc l=>K (.pc l) σ
  | .v (.func (.func f) a c)=>K (.v (.func (.func f) a c)) σ
  | .cl f a c=>K (.cl f a c) σ
  |_=>False
 | .bin op x y=>match ev rg x,ev rg y with
  | .v a,.v b=>nS op a b fun r=>K (.v r) σ
  |_,_=>False
 | .ic neg k x y=>match Bz k (ev rg x) (ev rg y)with
  |some b=>K (.v (.bool (b ^^ neg))) σ
  |none=>False
 | .eqs neg ks x y=>match(ev rg x).mQ,(ev rg y).mQ with
  |some xs,some ys=>match q5 ks xs ys with
   |some b=>K (.v (.bool (b ^^ neg))) σ
   |none=>False
  |_,_=>False
 | .un op x=>match ev rg x with
  | .v a=>match I5 op a with
   |some r=>K (.v r) σ
   |none=>False
  |_=>False
 | .lq k x=>match ev rg x with
  | .v (.int _ n)=>K (.v (.int k (k.wrap n))) σ
  |_=>False
 | .pG x=>match ev rg x with
  | .v (.string s)=>K (.v (.string s)) σ
  |_=>False
 | .qh t x=>K (.kQ t (ev rg x)) σ
 | .er fn first captured=>match mS (bD rg first),mS (bD rg captured)with
  |some a,some c=>K (.v (.func fn a.toArray c.toArray)) σ
  |_,_=>match fn with
   | .func f=>K (.cl f (bD rg first) (bD rg captured)) σ
   |_=>False
 | .slice ag x lo hi=>match nD (lo.map (ev rg)),nD (hi.map (ev rg))with
  |some lo,some hi=>match ev rg x with
   | .sl nn e rows=>e=ag∧0≤lo.getD 0∧lo.getD 0≤hi.getD rows.length∧hi.getD rows.length≤rows.length∧K (.sl nn ag ((rows.take (hi.getD rows.length).toNat).drop (lo.getD 0).toNat)) σ
   | .own e tg b u c rows=>e=ag∧0≤lo.getD 0∧lo.getD 0≤hi.getD rows.length∧hi.getD rows.length≤rows.length∧
     K (if hi.isNone then .own ag tg b u c (rows.drop (lo.getD 0).toNat)else .sl true ag ((rows.take (hi.getD rows.length).toNat).drop (lo.getD 0).toNat)) σ
   | .v (.slice none 0 0)=>lo.getD 0=0∧hi.getD 0=0∧K (.v (.slice none 0 0)) σ
   |_=>False
  |_,_=>False
 | .kE off x=>match ev rg x with
  | .lp t b o=>K (.lp t b (o+off)) σ
  | .pc l=>K (.pc (l.drop off)) σ
  |_=>False
 | .field agg off n x=>match(ev rg x).mQ with
  |some l=>off+n≤l.length∧if agg then K (.agg ((l.drop off).take n)) σ else match l[off]? with
   |some y=>K y σ
   |none=>False
  |none=>False
 | .eY ag x i=>match ev rg i with
  | .v (.int _ i)=>match ev rg x with
   | .sl _ e rows=>e=ag∧0≤i∧i<rows.length∧K (.pc (rows.getD i.toNat [])) σ
   | .own e _ _ _ _ rows=>e=ag∧0≤i∧i<rows.length∧K (.pc (rows.getD i.toNat [])) σ
   | .ms t b o n _=>0≤i∧i<n∧K (.lp t b (o+i.toNat * ag)) σ
   |_=>False
  |_=>False
 | .lJ n ag x i=>match ev rg i with
  | .v (.int _ i)=>match ev rg x with
   | .lp t b o=>0≤i∧i<n∧K (.lp t b (o+i.toNat * ag)) σ
   | .pc l=>0≤i∧i<n∧K (.pc (l.drop (i.toNat * ag))) σ
   | .v (.pointer (some ⟨g,o,none⟩))=>∃ l,Glob.av P g=some l∧o=0∧0≤i∧i<n∧K (.pc (l.drop (i.toNat * ag))) σ
   |_=>False
  |_=>False
 | .idxs x i=>match ev rg i,ev rg x with
  | .v (.int _ i),.v (.string s)=>∃ h:0≤i∧i<s.size,K (.v (.int .u8 (s[i.toNat]'(by omega)).toNat)) σ
  |_,_=>False
 | .extract x i=>match ev rg x with
  | .aE xs=>match xs[i]? with
   |some y=>K y σ
   |none=>False
  | .v (.tuple vs)=>match vs[i]? with
   |some y=>K (.v y) σ
   |none=>False
  |_=>False
 | .call f args=>qH P f (bD rg args) σ K E
 | .gz f args=>match ev rg f with
  | .v (.func (.func f) a c)=>jI P f=true∧qH P f (a.toList.map .v++bD rg args++c.toList.map .v) σ K E
  | .cl f a c=>jI P f=true∧qH P f (a++bD rg args++c) σ K E
  |_=>False
 | .len true x=>match ev rg x with
  | .v (.string s)=>K (.v (.int .i64 s.size)) σ
  |_=>False
 | .len false x=>match ev rg x with
  | .v (.slice _ n _)=>K (.v (.int .i64 n)) σ
  | .ms _ _ _ n _=>K (.v (.int .i64 n)) σ
  | .sl _ _ rows=>(rows.length≤maxLen→K (.v (.int .i64 rows.length)) σ)
  | .own _ _ _ _ _ rows=>(rows.length≤maxLen→K (.v (.int .i64 rows.length)) σ)
  |_=>False
 | .append _ ag bytes _ x y=>match ev rg x,ew ag (ev rg y)with
  | .v (.slice none 0 0),some rows'=>rows'.length * bytes≤35184372088832∧
    (rows'=[]→K (.v (.slice none 0 0)) σ)∧(rows'≠[]→∀ b u c,u=rows'.length * ag→K (.own ag (d.getD 0) b u c rows') ((d.getD 0,b,.tail u c)::σ))
  | .own e tg b u c rows,some rows'=>e=ag∧bo σ tg=some (b,.tail u c)∧(rows.length+rows'.length) * bytes≤35184372088832∧rows'.all (fun r=>r.all AV.one)=true∧
    ∀ b' u' c',(u=rows.length * ag→u'=(rows.length+rows'.length) * ag)→K (.own ag tg b' u' c' (rows++rows')) (eB σ tg b' (.tail u' c'))
  | .fl e rows,some rows'=>e=ag∧(rows.length+rows'.length) * bytes≤35184372088832∧(rows'=[]→K (.fl ag rows) σ)∧(rows'≠[]→
    ∀ b u c,K (.own ag (d.getD 0) b u c (rows++rows')) ((d.getD 0,b,.tail u c)::σ))
  |_,_=>False
 | .max2 x y=>match ev rg x,ev rg y with
  | .v a,.v b=>match wq false a b with
   |some r=>K (.v r) σ
   |none=>False
  |_,_=>False
 | .min2 x y=>match ev rg x,ev rg y with
  | .v a,.v b=>match wq true a b with
   |some r=>K (.v r) σ
   |none=>False
  |_,_=>False
 | .bS op ty ti args=>jf P op ty ti args (bD rg args) σ K
 | .exts op ty ti args=>jf P op ty ti args (bD rg args) σ K
 | .panic x=>match ev rg x with
  | .kQ t y=>match mS [y]with
   |some [v]=>E [{v:= .iface t v,recovered:=false}] σ
   |_=>False
  |_=>False
end Go.Sx
