/-
  The layer Sx, first part: abstract values, what they stand for in a world, the invariant of a walk. Over any program.
-/
import Derived.Orders
import Derived.WalkKit
set_option linter.unusedVariables false
set_option linter.unusedSimpArgs false
set_option linter.unusedSectionVars false
abbrev Z9:= @if_neg
abbrev Z8:= @if_pos
abbrev Z7:= @Nat.le_of_ble_eq_true
abbrev Z6:= @List.length_cons
abbrev Z5:= @List.length_append
abbrev Z4:= @List.getElem?_eq_getElem
abbrev Z3:= @List.length_map
abbrev Z2:= @Array.getD_eq_getD_getElem?
abbrev Z1:= @Option.some.injEq
abbrev Z0:= @Bool.and_eq_true
abbrev ZY:= @List.getD_eq_getElem?_getD
abbrev ZX:= @Array.getElem?_eq_some_iff
abbrev ZW:= @List.length_nil
abbrev ZV:= @List.mem_cons
abbrev ZU:= @List.mem_cons_of_mem
abbrev ZT:= @List.cons.injEq
abbrev ZS:= @List.size_toArray
abbrev ZR:= @Nat.le_refl
abbrev ZQ:= @Option.map_eq_some_iff
abbrev ZP:= @List.getElem?_eq_some_iff
abbrev ZO:= @List.eq_nil_of_length_eq_zero
abbrev ZN:= @List.mem_append_left
abbrev ZM:= @Bool.false_eq_true
abbrev ZL:= @Array.getElem?_eq_getElem
abbrev ZK:= @List.length_take
abbrev ZJ:= @List.mem_cons_self
abbrev ZI:= @List.mem_singleton
abbrev ZH:= @Nat.zero_le
abbrev ZG:= @List.mem_append
abbrev ZF:= @List.take_succ_eq_append_getElem
abbrev ZE:= @Array.all_eq_true_iff_forall_mem
abbrev ZD:= @List.take_of_length_le
abbrev ZC:= @List.cons_append
abbrev ZB:= @Nat.eq_of_beq_eq_true
abbrev ZA:= @List.all_eq_true
abbrev Zz:= @List.append_assoc
abbrev Zy:= @congrArg
abbrev Zx:= @Option.getD_some
abbrev Zv:= @Array.getElem?_setIfInBounds
abbrev Zu:= @List.map_cons
abbrev Zt:= @List.mem_append_right
abbrev Zq:= @decide_eq_true_eq
abbrev Zp:= @List.getElem_mem
abbrev Zn:= @decide_eq_false
abbrev Zm:= @List.getElem_map
abbrev Zl:= @List.takeWhile_cons
abbrev Zk:= @Nat.le_trans
abbrev Zj:= @List.length_drop
abbrev Zi:= @decide_eq_true
abbrev Zh:= @Option.map_some
abbrev Zg:= @List.append_nil
abbrev Zf:= @if_false
abbrev Ze:= @List.mem_filter
abbrev Zd:= @and_true
abbrev Zc:= @Nat.zero_add
abbrev Zb:= @Array.length_toList
abbrev Za:= @List.nil_append
abbrev Y9:= @List.getElem?_append_left
abbrev Y8:= @List.drop_eq_getElem_cons
abbrev Y7:= @Bool.or_eq_true
abbrev Y6:= @List.mem_range
abbrev Y5:= @List.mem_iff_getElem
abbrev Y4:= @if_true
abbrev Y3:= @Decidable.not_not
abbrev Y2:= @Option.some.inj
abbrev Y1:= @List.length_replicate
abbrev Y0:= @List.take_append_of_le_length
abbrev YZ:= @List.length_pos_iff
abbrev YX:= @List.mem_map
abbrev YW:= @Bool.not_eq_true'
abbrev YV:= @Array.getElem?_setIfInBounds_ne
abbrev YU:= @List.length_singleton
abbrev YT:= @beq_eq_false_iff_ne
abbrev YS:= @List.map_append
abbrev YR:= @List.getElem_append_right
abbrev YQ:= @List.map_eq_nil_iff
abbrev YP:= @Nat.add_zero
abbrev YO:= @List.map_nil
abbrev YN:= @Int.toNat_natCast
abbrev YM:= @Nat.add_mul
abbrev YL:= @List.drop_drop
abbrev YK:= @List.getElem_of_mem
abbrev YJ:= @Array.ext'
abbrev YI:= @List.take_append_drop
abbrev YH:= @List.getElem_append_left
abbrev YG:= @List.nodup_cons
abbrev YF:= @Bool.eq_iff_iff
abbrev YE:= @List.not_mem_nil
abbrev YD:= @List.cons_ne_nil
abbrev YC:= @List.any_eq_true
abbrev YB:= @Nat.beq_refl
abbrev YA:= @List.getElem?_map
abbrev Yz:= @List.getElem?_append_right
abbrev Yy:= @Nat.lt_or_eq_of_le
abbrev Yx:= @Nat.lt_of_lt_of_le
abbrev Yw:= @Prod.mk.injEq
abbrev Yv:= @of_decide_eq_true
abbrev Yu:= @Nat.lt_trichotomy
abbrev Yt:= @Nat.le_of_lt_succ
abbrev Ys:= @Array.getElem_mem
abbrev Yr:= @UInt8.toNat_inj
abbrev Yq:= @List.mem_map_of_mem
abbrev Yp:= @Nat.mul_comm
abbrev Yo:= @List.getElem_cons_zero
abbrev Yn:= @List.pairwise_cons
abbrev Ym:= @List.getElem?_toArray
abbrev Yl:= @List.cons_prefix_cons
abbrev Yk:= @Array.getElem?_modify
abbrev Yj:= @List.pairwise_iff_getElem
abbrev Yi:= @Nat.mul_one
abbrev Yh:= @List.nodup_append
abbrev Yg:= @List.mem_of_mem_tail
abbrev Yf:= @List.map_map
abbrev Ye:= @Option.isSome_iff_exists
abbrev Yd:= @Nat.blt_eq
abbrev Yc:= @List.take_succ_cons
abbrev Yb:= @List.perm_middle
abbrev Ya:= @List.drop_take
abbrev X9:= @Bool.not_eq_true
abbrev X8:= @exists_false
abbrev X7:= @exists_const
abbrev X6:= @Nat.lt_or_ge
abbrev X5:= @List.getElem_range
abbrev X4:= @List.filter_eq_nil_iff
abbrev X3:= @List.drop_of_length_le
abbrev X2:= @Array.any_eq_true
abbrev X1:= @Nat.mul_le_mul_right
abbrev X0:= @List.range_eq_range'
abbrev XZ:= @List.pairwise_append
abbrev XY:= @Array.getElem?_append_left
abbrev XW:= @Option.getD_none
abbrev XU:= @List.take_length
abbrev XT:= @List.tail_suffix
abbrev XQ:= @List.mem_flatMap
abbrev XP:= @List.ext_getElem
abbrev XO:= @List.getD_cons_succ
abbrev XN:= @Nat.add_assoc
abbrev XM:= @List.map_take
abbrev XL:= @List.drop_one
abbrev XK:= @List.getElem?_drop
abbrev XJ:= @List.nodup_nil
abbrev XI:= @List.getElem_drop
abbrev XH:= @List.getElem_cons_succ
abbrev XG:= @List.flatten_cons
abbrev XF:= @Bool.not_false
abbrev XE:= @List.length_filter_le
abbrev XD:= @Array.mem_of_getElem?
namespace Go.Sx
inductive AV where
 |v (x:Value)
 |any
 |agg (xs:List AV)
 |aT (xs:List AV)
 |sl (nn:Bool) (af:Nat) (rows:List (List AV))
 |own (af t b u c:Nat) (rows:List (List AV))
 |ms (t b o n c:Nat)
 |pc (l:List AV)
 |iK (t:TypeId) (x:AV)
 |lp (t b o:Nat)
 |eu (t b:Nat)
 |ai (k:IntKind)
 |cl (f:FuncId) (a c:List AV)
 |fl (af:Nat) (rows:List (List AV))
deriving Inhabited
abbrev Mem:=Nat→Nat→Option Value
def Mem.le(M M':Mem):Prop:=∀ b o v,M b o=some v→M' b o=some v
theorem Mem.le.refl(M:Mem):M.le M:=fun _ _ _ h=>h
theorem Mem.le.trans{A B C:Mem}(h:A.le B)(k:B.le C):A.le C:=fun b o v x=>k b o v (h b o v x)
inductive R(M:Mem):AV→Value→Prop
 |v (x:Value):R M (.v x) x
 |any (x:Value):R M .any x
 |agg (xs:List AV) (cs:List Value) (hl:xs.length=cs.length) (h:∀ i (h1:i<xs.length) (h2:i<cs.length),R M xs[i] cs[i]):R M (.agg xs) (.agg cs.toArray)
 |aT (xs:List AV) (cs:List Value) (hl:xs.length=cs.length) (h:∀ i (h1:i<xs.length) (h2:i<cs.length),R M xs[i] cs[i]):R M (.aT xs) (.tuple cs.toArray)
 |nil (nn:Bool) (af:Nat) (a:Option Addr) (h:nn=true→a.isSome=true):R M (.sl nn af []) (.slice a 0 0)
 |sl (nn:Bool) (af:Nat) (rows:List (List AV)) (b off cap:Nat) (cs:Nat→Value) (aQ:∀ i (h:i<rows.length),rows[i].length=af)
   (hM:∀ k,k<rows.length * af→M b (off+k)=some (cs k))
   (hR:∀ i (h:i<rows.length) j (h2:j<rows[i].length),R M rows[i][j] (cs (i * af+j)))
   (hc:rows.length≤cap) (hm:cap≤maxLen):R M (.sl nn af rows) (.slice (some ⟨b,off,none⟩) rows.length cap)
 |ms (t b o n c:Nat):R M (.ms t b o n c) (.slice (some ⟨b,o,none⟩) n c)
 |own (af t b u c:Nat) (rows:List (List AV)) (off cap:Nat) (cs:Nat→Value) (aQ:∀ i (h:i<rows.length),rows[i].length=af)
   (hM:∀ k,k<rows.length * af→M b (off+k)=some (cs k))
   (hR:∀ i (h:i<rows.length) j (h2:j<rows[i].length),R M rows[i][j] (cs (i * af+j)))
   (hc:rows.length≤cap) (hm:cap≤maxLen) (hu:cap=0∨(off+rows.length * af=u∧off+cap * af≤c)) (he:0<af):R M (.own af t b u c rows) (.slice (some ⟨b,off,none⟩) rows.length cap)
 |pc (l:List AV) (b off:Nat) (cs:Nat→Value) (hM:∀ k,k<l.length→M b (off+k)=some (cs k))
   (hR:∀ k (h:k<l.length),R M l[k] (cs k)):R M (.pc l) (.pointer (some ⟨b,off,none⟩))
 |iK (t:TypeId) (x:AV) (v:Value) (h:R M x v):R M (.iK t x) (.iface t v)
 |lp (t b o:Nat):R M (.lp t b o) (.pointer (some ⟨b,o,none⟩))
 |eu (t b:Nat):R M (.eu t b) (.map (some b))
 |ai (k:IntKind) (n:Int):R M (.ai k) (.int k n)
 |cl (f:FuncId) (a c:List AV) (va vc:List Value) (hl:a.length=va.length) (gg:c.length=vc.length) (h:∀ i (h1:i<a.length) (h2:i<va.length),R M a[i] va[i])
   (h':∀ i (h1:i<c.length) (h2:i<vc.length),R M c[i] vc[i]):R M (.cl f a c) (.func (.func f) va.toArray vc.toArray)
 |fl (af:Nat) (rows:List (List AV)) (b off:Nat) (cs:Nat→Value) (aQ:∀ i (h:i<rows.length),rows[i].length=af)
   (hM:∀ k,k<rows.length * af→M b (off+k)=some (cs k))
   (hR:∀ i (h:i<rows.length) j (h2:j<rows[i].length),R M rows[i][j] (cs (i * af+j)))
   (hm:rows.length≤maxLen):R M (.fl af rows) (.slice (some ⟨b,off,none⟩) rows.length rows.length)
theorem R.mono{M M':Mem}(hM:M.le M'){x:AV}{v:Value}(h:R M x v):R M' x v:=by
 induction h with
 |v x=>exact .v x
 |any x=>exact .any x
 |agg xs cs hl _ ih=>exact .agg xs cs hl ih
 |aT xs cs hl _ ih=>exact .aT xs cs hl ih
 |nil nn af a h=>exact .nil nn af a h
 |sl nn af rows b off cap cs aQ hm _ hc hx ih=>exact .sl nn af rows b off cap cs aQ (fun k hk=>hM _ _ _ (hm k hk)) ih hc hx
 |ms t b o n c=>exact .ms t b o n c
 |own af t b u c rows off cap cs aQ hm _ hc hx hu he ih=>exact .own af t b u c rows off cap cs aQ (fun k hk=>hM _ _ _ (hm k hk)) ih hc hx hu he
 |pc l b off cs hm _ ih=>exact .pc l b off cs (fun k hk=>hM _ _ _ (hm k hk)) ih
 |iK t x v _ ih=>exact .iK t x v ih
 |lp t b o=>exact .lp t b o
 |eu t b=>exact .eu t b
 |ai k n=>exact .ai k n
 |cl f a c va vc hl gg _ _ ih ml=>exact .cl f a c va vc hl gg ih ml
 |fl af rows b off cs aQ hm _ hx ih=>exact .fl af rows b off cs aQ (fun k hk=>hM _ _ _ (hm k hk)) ih hx
def RL(M:Mem)(xs:List AV)(cs:List Value):Prop:=xs.length=cs.length∧∀ i (h1:i<xs.length) (h2:i<cs.length),R M xs[i] cs[i]
theorem RL.mono{M M':Mem}(hM:M.le M'){xs:List AV}{cs:List Value}(h:RL M xs cs):RL M' xs cs:=⟨h.1,fun i a b=>(h.2 i a b).mono hM⟩
theorem RL.nil{M:Mem}:RL M [] []:=⟨rfl,fun i h=>absurd h (by simp)⟩
theorem RL.cons{M:Mem}{x:AV}{v:Value}{xs:List AV}{cs:List Value}(h:R M x v)(t:RL M xs cs):RL M (x::xs) (v::cs):=by
 refine⟨by simp[t.1],fun i h1 h2=> ?_⟩
 cases i with
 |zero=>exact h
 |succ i=>simpa using t.2 i (by grind) (by grind)
theorem RL.bS{M:Mem}{x:AV}{xs:List AV}{cs:List Value}(h:RL M (x::xs) cs):∃ v cs',cs=v::cs'∧R M x v∧RL M xs cs':=by
 obtain⟨hl,hr⟩:=h
 cases cs with
 |nil=>grind
 |cons v cs'=>
  exact⟨v,cs',rfl,hr 0 (by simp) (by simp),by grind,fun i h1 h2=>hr (i+1) (by grind) (by grind)⟩
theorem RL.rR{M:Mem}{cs:List Value}(h:RL M [] cs):cs=[]:=by
 have:=h.1;simp at this;exact ZO this.symm
theorem RL.append{M:Mem}{xs ys:List AV}{cs ds:List Value}(h:RL M xs cs)(k:RL M ys ds):RL M (xs++ys) (cs++ds):=by
 induction xs generalizing cs with
 |nil=>obtain rfl:=h.rR;grind
 |cons x xs ih=>obtain⟨v,cs',rfl,a,b⟩:=h.bS;exact RL.cons a (ih b)
theorem RL.get{M:Mem}{xs:List AV}{cs:List Value}(h:RL M xs cs){i:Nat}{x:AV}(hx:xs[i]? =some x):∃ v,cs[i]? =some v∧R M x v:=by
 obtain⟨hi,rfl⟩:=ZP.1 hx
 have h2:i<cs.length:=h.1 ▸ hi
 exact⟨cs[i],Z4 h2,h.2 i hi h2⟩
theorem RL.drop{M:Mem}{xs:List AV}{cs:List Value}(h:RL M xs cs)(n:Nat):RL M (xs.drop n) (cs.drop n):=by
 refine⟨by simp[h.1],fun i h1 h2=> ?_⟩
 simp
 exact h.2 _ _ _
theorem RL.take{M:Mem}{xs:List AV}{cs:List Value}(h:RL M xs cs)(n:Nat):RL M (xs.take n) (cs.take n):=by
 refine⟨by simp[h.1],fun i h1 h2=> ?_⟩
 simp
 exact h.2 _ _ _
theorem RL.set{M:Mem}{xs:List AV}{cs:List Value}(h:RL M xs cs)(n:Nat){x:AV}{v:Value}(hx:R M x v):RL M (xs.set n x) (cs.set n v):=by
 refine⟨by simp[h.1],fun i h1 h2=> ?_⟩
 simp only[List.getElem_set]
 split
 ·exact hx
 ·exact h.2 _ _ _
theorem RL.exact{M:Mem}(cs:List Value):RL M (cs.map .v) cs:=⟨by simp,fun i h1 h2=>by simpa using R.v _⟩
theorem R.qd{M:Mem}{xs:List AV}{v:Value}(h:R M (.agg xs) v):∃ cs,v= .agg cs.toArray∧RL M xs cs:=by
 cases h with
 |agg _ cs hl hr=>exact⟨cs,rfl,hl,hr⟩
theorem R.tM{M:Mem}{xs:List AV}{cs:List Value}(h:RL M xs cs):R M (.agg xs) (.agg cs.toArray):= .agg xs cs h.1 h.2
theorem R.EU{M:Mem}{xs:List AV}{v:Value}(h:R M (.aT xs) v):∃ cs,v= .tuple cs.toArray∧RL M xs cs:=by
 cases h with
 |aT _ cs hl hr=>exact⟨cs,rfl,hl,hr⟩
theorem R.EI{M:Mem}{xs:List AV}{cs:List Value}(h:RL M xs cs):R M (.aT xs) (.tuple cs.toArray):= .aT xs cs h.1 h.2
theorem R.ay{M:Mem}{x v:Value}(h:R M (.v x) v):v=x:=by cases h;rfl
theorem R.qf{M:Mem}{l:List AV}{v:Value}(h:R M (.pc l) v):∃ b off,∃ cs:Nat→Value,v= .pointer (some ⟨b,off,none⟩)∧(∀ k,k<l.length→M b (off+k)=some (cs k))∧∀ k (h:k<l.length),R M l[k] (cs k):=by
 cases h with
 |pc _ b off cs h1 h2=>exact⟨b,off,cs,rfl,h1,h2⟩
structure Rows(M:Mem)(b off af:Nat)(rows:List (List AV))(cs:Nat→Value):Prop where
 size:∀ i (h:i<rows.length),rows[i].length=af
 mem:∀ k,k<rows.length * af→M b (off+k)=some (cs k)
 rel:∀ i (h:i<rows.length) j (h2:j<rows[i].length),R M rows[i][j] (cs (i * af+j))
theorem R.qg{M:Mem}{nn:Bool}{af:Nat}{rows:List (List AV)}{v:Value}(h:R M (.sl nn af rows) v):(∃ a:Option Addr,(nn=true→a.isSome=true)∧rows=[]∧v= .slice a 0 0)∨
  ∃ b off cap cs,v= .slice (some ⟨b,off,none⟩) rows.length cap∧Rows M b off af rows cs∧rows.length≤cap∧cap≤maxLen:=by
 cases h with
 |nil _ _ a h=>grind
 |sl _ _ _ b off cap cs h1 h2 h3 h4 h5=>exact .inr ⟨b,off,cap,cs,rfl,⟨h1,h2,h3⟩,h4,h5⟩
theorem R.nz{M:Mem}{b off cap af:Nat}{cs:Nat→Value}{rows:List (List AV)}(h:Rows M b off af rows cs)(h4:rows.length≤cap)(h5:cap≤maxLen)(nn:Bool):R M (.sl nn af rows) (.slice (some ⟨b,off,none⟩) rows.length cap):=
 .sl nn af rows b off cap cs h.size h.mem h.rel h4 h5
theorem R.B6{M:Mem}{t b o n c:Nat}{v:Value}(h:R M (.ms t b o n c) v):v= .slice (some ⟨b,o,none⟩) n c:=by cases h;rfl
theorem R.qe{M:Mem}{af t b u c:Nat}{rows:List (List AV)}{v:Value}(h:R M (.own af t b u c rows) v):
  ∃ off cap cs,v= .slice (some ⟨b,off,none⟩) rows.length cap∧Rows M b off af rows cs∧rows.length≤cap∧cap≤maxLen∧(cap=0∨(off+rows.length * af=u∧off+cap * af≤c))∧0<af:=by
 cases h with
 |own _ _ _ _ _ _ off cap cs h1 h2 h3 h4 h5 h6 h8=>exact⟨off,cap,cs,rfl,⟨h1,h2,h3⟩,h4,h5,h6,h8⟩
theorem R.rG{M:Mem}{t b u c off cap af:Nat}{cs:Nat→Value}{rows:List (List AV)}(h:Rows M b off af rows cs)(h4:rows.length≤cap)(h5:cap≤maxLen)(h6:cap=0∨(off+rows.length * af=u∧off+cap * af≤c))(h8:0<af):
  R M (.own af t b u c rows) (.slice (some ⟨b,off,none⟩) rows.length cap):= .own af t b u c rows off cap cs h.size h.mem h.rel h4 h5 h6 h8
theorem R.ahb{M:Mem}{af t b u c:Nat}{rows:List (List AV)}{v:Value}(h:R M (.own af t b u c rows) v)(nn:Bool):R M (.sl nn af rows) v:=by
 obtain⟨off,cap,cs,rfl,hr,h4,h5,_⟩:=h.qe
 exact R.nz hr h4 h5 nn
theorem R.SR{M:Mem}{af:Nat}{rows:List (List AV)}{v:Value}(h:R M (.fl af rows) v):∃ b off cs,v= .slice (some ⟨b,off,none⟩) rows.length rows.length∧Rows M b off af rows cs∧rows.length≤maxLen:=by
 cases h with
 |fl _ _ b off cs h1 h2 h3 h4=>exact⟨b,off,cs,rfl,⟨h1,h2,h3⟩,h4⟩
theorem R.agt{M:Mem}{b off af:Nat}{cs:Nat→Value}{rows:List (List AV)}(h:Rows M b off af rows cs)(h5:rows.length≤maxLen):R M (.fl af rows) (.slice (some ⟨b,off,none⟩) rows.length rows.length):=
 .fl af rows b off cs h.size h.mem h.rel h5
theorem R.PA{M:Mem}{af:Nat}{rows:List (List AV)}{v:Value}(h:R M (.fl af rows) v)(nn:Bool):R M (.sl nn af rows) v:=by
 obtain⟨b,off,cs,rfl,hr,h5⟩:=h.SR
 exact R.nz hr (ZR _) h5 nn
theorem R.awr{M:Mem}{af:Nat}{rows:List (List AV)}{v:Value}(h:R M (.sl true af rows) v):R M (.sl false af rows) v:=by
 rcases h.qg with⟨a,_,rfl,rfl⟩|⟨b,off,cap,cs,rfl,hr,h4,h5⟩
 ·exact .nil _ _ _ (fun h=>nomatch h)
 ·exact R.nz hr h4 h5 _
theorem R.oJ{M:Mem}{t b o:Nat}{v:Value}(h:R M (.lp t b o) v):v= .pointer (some ⟨b,o,none⟩):=by cases h;rfl
theorem R.B5{M:Mem}{t b:Nat}{v:Value}(h:R M (.eu t b) v):v= .map (some b):=by cases h;rfl
theorem R.agU{M:Mem}{k:IntKind}{v:Value}(h:R M (.ai k) v):∃ n,v= .int k n:=by cases h with|ai _ n=>exact⟨n,rfl⟩
theorem R.SQ{M:Mem}{f:FuncId}{a c:List AV}{v:Value}(h:R M (.cl f a c) v):∃ va vc:List Value,v= .func (.func f) va.toArray vc.toArray∧RL M a va∧RL M c vc:=by
 cases h with
 |cl _ _ _ va vc hl gg h h'=>exact⟨va,vc,rfl,⟨hl,h⟩,⟨gg,h'⟩⟩
theorem R.ags{M:Mem}{f:FuncId}{a c:List AV}{va vc:List Value}(h:RL M a va)(h':RL M c vc):R M (.cl f a c) (.func (.func f) va.toArray vc.toArray):= .cl f a c va vc h.1 h'.1 h.2 h'.2
theorem R.SS{M:Mem}{t:TypeId}{x:AV}{v:Value}(h:R M (.iK t x) v):∃ u,v= .iface t u∧R M x u:=by
 cases h with
 |iK _ _ u h=>exact⟨u,rfl,h⟩
theorem agw{i n af j:Nat}(hi:i<n)(hj:j<af):i * af+j<n * af:=by
 have:(i+1) * af≤n * af:=X1 _ hi
 rw[Nat.succ_mul]at this
 omega
theorem Rows.mono{M M':Mem}(hM:M.le M'){b off af:Nat}{rows:List (List AV)}{cs:Nat→Value}(h:Rows M b off af rows cs):Rows M' b off af rows cs:=
 ⟨h.size,fun k hk=>hM _ _ _ (h.mem k hk),fun i hi j hj=>(h.rel i hi j hj).mono hM⟩
theorem Rows.sub{M:Mem}{b off af:Nat}{rows:List (List AV)}{cs:Nat→Value}(h:Rows M b off af rows cs)(lo hi:Nat)(hh:hi≤rows.length)(hl:lo≤hi):
  Rows M b (off+lo * af) af ((rows.take hi).drop lo) (fun k=>cs (lo * af+k)):=by
 have hlen:((rows.take hi).drop lo).length=hi-lo:=by grind
 refine⟨fun i h1=> ?_,fun k hk=> ?_,fun i h1 j h2=> ?_⟩
 ·simp
  exact h.size _ _
 ·rw[hlen]at hk
  have hb:lo * af+k<rows.length * af:=by
   have h1:(hi-lo) * af+lo * af=hi * af:=by rw[← YM];grind
   have h2:hi * af≤rows.length * af:=X1 _ hh
   omega
  rw[XN]
  exact h.mem _ hb
 ·have h3:lo+i<rows.length:=by grind
  have hj:j<rows[lo+i].length:=by grind
  have:=h.rel (lo+i) h3 j hj
  grind
theorem Rows.pc{M:Mem}{b off af:Nat}{rows:List (List AV)}{cs:Nat→Value}(h:Rows M b off af rows cs)(i:Nat)(hi:i<rows.length):
  R M (.pc (rows.getD i [])) (.pointer (some ⟨b,off+i * af,none⟩)):=by
 have e:rows.getD i []=rows[i]:=by simp[hi]
 rw[e]
 refine .pc _ b _ (fun k=>cs (i * af+k)) (fun k hk=> ?_) (fun k hk=>h.rel i hi k hk)
 rw[h.size i hi]at hk
 rw[XN]
 exact h.mem _ (agw hi hk)
def AV.cells? :AV→Option (List AV)
 | .v (.agg cs)=>some (cs.toList.map .v)
 | .v (.tuple _)=>none
 | .agg xs=>some xs
 | .any=>none
 | .aT _=>none
 |x=>some [x]
def AV.nP :AV→Option (List AV)
 | .v (.agg cs)=>some (cs.toList.map .v)
 | .agg xs=>some xs
 |_=>none
theorem R.GD{M:Mem}{x:AV}{v:Value}{l:List AV}(h:R M x v)(hl:x.nP =some l):∃ cs,v= .agg cs∧RL M l cs.toList:=by
 cases h with
 |v=>
  cases v with
  |agg cs=>simp[AV.nP]at hl;subst hl;exact⟨cs,rfl,RL.exact _⟩
  |_=>simp[AV.nP]at hl
 |agg xs cs gg hr=>simp[AV.nP]at hl;subst hl;exact⟨cs.toArray,rfl,gg,hr⟩
 |_=>simp[AV.nP]at hl
def AV.one:AV→Bool
 | .v x=>x.oneCell'
 | .any| .agg _| .aT _=>false
 |_=>true
theorem R.cells{M:Mem}{x:AV}{v:Value}{l:List AV}(h:R M x v)(hl:x.cells? =some l):RL M l v.cells.toList:=by
 cases h with
 |v=>
  cases v with
  |agg cs=>simp[AV.cells?]at hl;subst hl;exact RL.exact _
  |tuple _=>simp[AV.cells?]at hl
  |_=>simp only[AV.cells?,Z1]at hl;subst hl;exact RL.cons (.v _) RL.nil
 |any=>simp[AV.cells?]at hl
 |agg xs cs gg hr=>simp[AV.cells?]at hl;subst hl;exact⟨gg,hr⟩
 |aT=>simp[AV.cells?]at hl
 |nil nn af a h=>simp only[AV.cells?,Z1]at hl;subst hl;exact RL.cons (.nil nn af a h) RL.nil
 |sl nn af rows b off cap cs a1 a2 a3 a4 a5=>simp only[AV.cells?,Z1]at hl;subst hl;exact RL.cons (.sl nn af rows b off cap cs a1 a2 a3 a4 a5) RL.nil
 |ms t b o n c=>simp only[AV.cells?,Z1]at hl;subst hl;exact RL.cons (.ms t b o n c) RL.nil
 |own af t b u c rows off cap cs a1 a2 a3 a4 a5 a6 a8=>simp only[AV.cells?,Z1]at hl;subst hl;exact RL.cons (.own af t b u c rows off cap cs a1 a2 a3 a4 a5 a6 a8) RL.nil
 |pc l b off cs a1 a2=>simp only[AV.cells?,Z1]at hl;subst hl;exact RL.cons (.pc l b off cs a1 a2) RL.nil
 |iK t x v a=>simp only[AV.cells?,Z1]at hl;subst hl;exact RL.cons (.iK t x v a) RL.nil
 |lp t b o=>simp only[AV.cells?,Z1]at hl;subst hl;exact RL.cons (.lp t b o) RL.nil
 |eu t b=>simp only[AV.cells?,Z1]at hl;subst hl;exact RL.cons (.eu t b) RL.nil
 |ai k n=>simp only[AV.cells?,Z1]at hl;subst hl;exact RL.cons (.ai k n) RL.nil
 |cl f a c va vc a1 a2 a3 a4=>simp only[AV.cells?,Z1]at hl;subst hl;exact RL.cons (.cl f a c va vc a1 a2 a3 a4) RL.nil
 |fl af rows b off cs a1 a2 a3 a4=>simp only[AV.cells?,Z1]at hl;subst hl;exact RL.cons (.fl af rows b off cs a1 a2 a3 a4) RL.nil
theorem R.one{M:Mem}{x:AV}{v:Value}(h:R M x v)(hl:x.one=true):v.oneCell'=true:=by
 cases h<;>simp_all [AV.one,Value.oneCell']
inductive cG where
 |cells (l:List AV)
 |tail (u c:Nat)
 |map (es:List (Value×Nat×AV)) (k:Nat)
deriving Inhabited
abbrev ag:=List (Nat×AV)
abbrev Store:=List (Nat×Nat×cG)
def lk:ag→Nat→AV
 |[],_=> .any
 |(i,x)::r,j=>bif Nat.beq i j then x else lk r j
def aR:Store→Nat→Option (Nat×cG)
 |[],_=>none
 |(i,b,x)::r,j=>bif Nat.beq i j then some (b,x)else aR r j
def BlkOK(M:Mem)(w:World)(b:Nat):cG→Prop
 | .cells l=>(∀ o,M b o=none)∧∃ cs t,w.heap[b]? =some (.cells cs t (0,0))∧RL M l cs.toList
 | .tail u c=>(∀ o,u≤o→M b o=none)∧∃ cs t,w.heap[b]? =some (.cells cs t (0,0))∧cs.size=c∧u≤c
 | .map es k=>(∀ o,M b o=none)∧∃ l:List MapEntry,w.heap[b]? =some (.map l.toArray k)∧l.map (fun e=>(e.key,e.born))=es.map (fun e=>(e.1,e.2.1))∧RL M (es.map (·.2.2)) (l.map (·.val))
class Glob (P:Program) where
 av:Nat→Option (List AV)
 gw:World→Prop
 df:List Deferred:=[]
instance (priority:=low) Glob.empty (P:Program):Glob P:=⟨fun _=>none,fun _=>True,[]⟩
class kG (P:Program) [Glob P]:Prop where
 h:Glob.df P=[]
instance (priority:=low) kG.empty (P:Program): @kG P (Glob.empty P):= @kG.mk P (Glob.empty P) rfl
structure Base extends World where
 bm:Mem
instance:Coe Base World:=⟨Base.toWorld⟩
structure Inv(P:Program)[Glob P](M:Mem)(w0:Base)(σ:Store)(w:World):Prop where
 os:w.os=w0.os
 tape:w.tape=w0.tape
 output:w.output=w0.output
 size:w0.heap.size≤w.heap.size
 old:∀ k,k<w0.heap.size→w.heap[k]? =w0.heap[k]?
 dA:∀ b o v,M b o=some v→w.cell? ⟨b,o,none⟩=some v
 st:∀ e∈σ,w0.heap.size≤e.2.1∧BlkOK M w e.2.1 e.2.2
 nd:(σ.map (·.2.1)).Nodup
 gl:∀ g l,Glob.av P g=some l→R M (.pc l) (.pointer (some ⟨g,0,none⟩))
 gw:Glob.gw P w0
 bm:∀ b o v,M b o=some v→b<w0.heap.size→w0.bm b o=some v
def bQ(M:Mem)(rg:ag)(a:Act):Prop:=∀ i,R M (lk rg i) (a.tmps.getD i undef)
theorem bQ.mono{M M':Mem}(hM:M.le M'){rg:ag}{a:Act}(h:bQ M rg a):bQ M' rg a:=fun i=>(h i).mono hM
def ev(rg:ag):Operand→AV
 | .tmp t=>lk rg t
 | .const v=> .v v
 | .global g=> .v (.pointer (some ⟨g,0,none⟩))
 | .func f=> .v (.func (.func f) #[] #[])
theorem bQ.ev{M:Mem}{rg:ag}{a:Act}(h:bQ M rg a)(x:Operand):R M (ev rg x) (a.eval x):=by
 cases x with
 |tmp t=>exact h t
 |const v=>exact .v v
 |global g=>exact .v _
 |func f=>exact .v _
def cm(d:Option Nat)(x:AV)(rg:ag):ag:=match d with|some d=>(d,x)::rg|none=>rg
theorem bQ.put{M:Mem}{rg:ag}{a:Act}(h:bQ M rg a)(d:Option Nat){x:AV}{v:Value}(hd:∀ t,d=some t→t<a.tmps.size)(hx:R M x v):bQ M (cm d x rg) (a.put d v):=by
 cases d with
 |none=>exact h
 |some d=>
  intro i
  simp only[cm,lk,Act.put]
  by_cases e:d=i
  ·simp_all
  ·have hb:Nat.beq d i=false:=by rw[← X9,Nat.beq_eq];grind
   have:(a.tmps.setIfInBounds d v).getD i undef=a.tmps.getD i undef:=by
    simp_all
   rw[hb,this]
   exact h i
theorem Act.size_put(a:Act)(d:Option Nat)(v:Value):(a.put d v).tmps.size=a.tmps.size:=by cases d<;>simp[Act.put]
theorem Act.AG(a:Act)(d:Option Nat)(v:Value):(a.put d v).defers=a.defers:=by cases d<;>simp[Act.put]
def fG:List Nat→ag→ag
 |[],_=>[]
 |i::l,rg=>(i,lk rg i)::fG l rg
theorem bQ.fG{M:Mem}{rg:ag}{a:Act}(h:bQ M rg a)(l:List Nat):bQ M (fG l rg) a:=by
 induction l with
 |nil=>exact fun i=> .any _
 |cons t l ih=>
  intro i
  simp only[Sx.fG,lk]
  cases hb:Nat.beq t i with
  |true=>rw[ZB hb];exact h i
  |false=>exact ih i
theorem Inv.drew{P:Program}[Glob P]{M:Mem}{w0:Base}{σ:Store}{w:World}(h:Inv P M w0 σ w)(n:Nat):Inv P M w0 σ {w with drawn:=n}:=
 ⟨h.os,h.tape,h.output,h.size,h.old,h.dA,h.st,h.nd,h.gl,h.gw,h.bm⟩
theorem BlkOK.lt{M:Mem}{w:World}{b:Nat}{x:cG}(h:BlkOK M w b x):b<w.heap.size:=by
 cases x with
 |cells l=>obtain⟨_,cs,t,hh,_⟩:=h;grind
 |tail u c=>obtain⟨_,cs,t,hh,_⟩:=h;grind
 |map es k=>obtain⟨_,l,hh,_⟩:=h;grind
theorem Inv.EC{P:Program}[Glob P]{M:Mem}{w0:Base}{σ:Store}{w:World}(h:Inv P M w0 σ w){e:Nat×Nat×cG}(he:e∈σ):e.2.1<w.heap.size:=(h.st e he).2.lt
theorem Inv.fresh{P:Program}[Glob P]{M:Mem}{w0:Base}{σ:Store}{w:World}(h:Inv P M w0 σ w):w.heap.size∉σ.map (·.2.1):=by
 intro hm
 obtain⟨e,he,h2⟩:=YX.1 hm
 have:=h.EC he
 omega
theorem tK:∀ {σ:Store} {t b:Nat} {x:cG},aR σ t=some (b,x)→(t,b,x)∈σ
 |[],t,b,x,h=>by cases h
 |(i,b',x')::r,t,b,x,h=>by
  simp only[aR]at h
  cases hb:Nat.beq i t with
  |true=>
   simp_all
  |false=>rw[hb]at h;exact ZU _ (tK h)
def cM:Store→Nat→Nat→cG→Store
 |[],_,_,_=>[]
 |(i,b',x')::r,t,b,x=>bif Nat.beq i t then(t,b,x)::r else(i,b',x')::cM r t b x
theorem uk:∀ {σ:Store} {t b:Nat} {x:cG},aR σ t=some (b,x)→∃ pre post,σ=pre++(t,b,x)::post∧∀ b' x',cM σ t b' x'=pre++(t,b',x')::post
 |[],t,b,x,h=>by cases h
 |(i,b0,x0)::r,t,b,x,h=>by
  simp only[aR]at h
  cases hb:Nat.beq i t with
  |true=>
   refine⟨[],r,by simp_all,fun b' x'=>by simp only[cM,hb,cond_true,Za]⟩
  |false=>
   rw[hb]at h
   obtain⟨pre,post,h1,h2⟩:=uk h
   exact⟨(i,b0,x0)::pre,post,by grind,fun b' x'=>by simp only[cM,hb,cond_false,h2,ZC]⟩
theorem Inv.H6{P:Program}[Glob P]{M:Mem}{w0:Base}{σ:Store}{w:World}(h:Inv P M w0 σ w)(o:Nat):M w.heap.size o=none:=by
 cases e:M w.heap.size o with
 |none=>rfl
 |some x=>have:=World.block_lt_of_cell? _ _ (h.dA _ _ _ e);grind
theorem IV(w:World)(o:Obj)(k:Nat)(h:k<w.heap.size):(w.alloc o).heap[k]? =w.heap[k]? :=by
 show(w.heap.push o)[k]? =_
 grind
theorem heap_alloc_new(w:World)(o:Obj):(w.alloc o).heap[w.heap.size]? =some o:=by
 show(w.heap.push o)[w.heap.size]? =_
 rw[Array.getElem?_push,Z8 rfl]
theorem BlkOK.heap{M:Mem}{w w':World}{b:Nat}{x:cG}(h:BlkOK M w b x)(e:w'.heap[b]? =w.heap[b]?):BlkOK M w' b x:=by
 cases x with
 |cells l=>obtain⟨a,cs,t,hh,r⟩:=h;exact⟨a,cs,t,e.trans hh,r⟩
 |tail u c=>obtain⟨a,cs,t,hh,r⟩:=h;exact⟨a,cs,t,e.trans hh,r⟩
 |map es k=>obtain⟨a,l,hh,r⟩:=h;exact⟨a,l,e.trans hh,r⟩
theorem Inv.alloc{P:Program}[Glob P]{M:Mem}{w0:Base}{σ:Store}{w:World}(h:Inv P M w0 σ w)(o:Obj):Inv P M w0 σ (w.alloc o):=by
 refine⟨h.os,h.tape,h.output,by simp;have:=h.size;omega,fun k hk=> ?_,fun b o' v hv=> ?_,fun e he=> ?_,h.nd,h.gl,h.gw,h.bm⟩
 ·rw[IV _ _ _ (Yx hk h.size)];exact h.old k hk
 ·have:=h.dA b o' v hv
  rw[World.cell?_alloc_lt _ _ _ (World.block_lt_of_cell? _ _ this)];grind
 ·exact⟨(h.st e he).1,(h.st e he).2.heap (IV _ _ _ (h.EC he))⟩
theorem Inv.box{P:Program}[Glob P]{M:Mem}{w0:Base}{σ:Store}{w:World}(h:Inv P M w0 σ w){cs:List Value}{l:List AV}(t:TypeId)(hl:RL M l cs)(tag:Nat):
  Inv P M w0 ((tag,w.heap.size,.cells l)::σ) (w.alloc (.cells cs.toArray t)):=by
 have h':=h.alloc (.cells cs.toArray t)
 refine⟨h'.os,h'.tape,h'.output,h'.size,h'.old,h'.dA,fun e he=> ?_,?_,h'.gl,h'.gw,h'.bm⟩
 ·rcases ZV.1 he with rfl|he
  ·exact⟨h.size,h.H6,cs.toArray,t,heap_alloc_new _ _,by grind⟩
  ·exact h'.st e he
 ·simp only[Zu,YG]
  exact⟨h.fresh,h.nd⟩
end Go.Sx
namespace Go.Sx
open Go.RowKit
inductive dH where
 |ret (x:AV)
 |dn (ch:List PanicEntry)
def uJ(M:Mem):dH→Ending→Prop
 | .ret x,.returned v=>R M x v
 | .dn ch,.panicked G3=>G3=ch
 |_,_=>False
def Spec(P:Program)[Glob P](f:FuncId)(as:List AV)(σ:Store)(Q:dH→Store→Prop):Prop:=
 ∀ (M:Mem) (w0:Base) (w:World) (cs:List Value),Inv P M w0 σ w→RL M as cs→
  Calls P f cs.toArray w fun e w'=>∃ M' r σ',M.le M'∧Inv P M' w0 σ' w'∧uJ M' r e∧Q r σ'
structure Pure(P:Program)[Glob P](f:FuncId)(as:List AV)(r:AV):Prop where
 sp:∀ σ,Spec P f as σ fun r' σ'=>r'= .ret r∧σ'=σ
def se(P:Program)[Glob P](f:FuncId)(as:List AV)(σ:Store)(K:AV→Store→Prop)(E:List PanicEntry→Store→Prop):Prop:=
 ∃ Q:dH→Store→Prop,Spec P f as σ Q∧(∀ x σ',Q (.ret x) σ'→K x σ')∧(∀ ch σ',Q (.dn ch) σ'→E ch σ')
theorem callP_congr{P:Program}[Glob P]{f:FuncId}{as as':List AV}{σ:Store}{K:AV→Store→Prop}{E:List PanicEntry→Store→Prop}(h:as=as'):se P f as σ K E=se P f as' σ K E:=by rw[h]
theorem xo{P:Program}[Glob P]{f:FuncId}{as:List AV}{σ:Store}{K:AV→Store→Prop}{E:List PanicEntry→Store→Prop}{r:AV}(h:Pure P f as r)(k:K r σ):se P f as σ K E:=
 ⟨_,h.sp σ,fun _ _ ⟨e,e'⟩=>by cases e;subst e';exact k,fun _ _ ⟨e,_⟩=>by cases e⟩
def iU(P:Program)[Glob P](f:FuncId):Bool:=
 match P.funcs[f]? with
 |some fn=>fn.name != "runtime.NumGoroutine" && fn.body.isSome
 |none=>false
inductive wY where
 |int|str|bool
deriving DecidableEq
inductive zX where
 |bool|slice|map|func|ptr
deriving DecidableEq
inductive TI where
 |str
 |int (k:IntKind)
 |sl (e:TypeId)
 |mp (k v:TypeId)
 |other
deriving DecidableEq
def jV:Option TypeDesc→TI
 |some .string=> .str
 |some (.int k)=> .int k
 |some (.slice e)=> .sl e
 |some (.map k v)=> .mp k v
 |_=> .other
def AL(P:Program)(t:TypeId):TI:=match P.underlying t with
 |some (.slice e)=>jV (P.underlying e)
 |_=> .other
def JY(P:Program)(t:TypeId):TI:=match P.underlying t with
 |some (.map k _)=>jV (P.underlying k)
 |_=> .other
def gJ(P:Program):Op→List TI
 | .convert s d _=>[jV (P.underlying s),AL P s,jV (P.underlying d),AL P d]
 | .slice t _ _ _ _=>[jV (P.underlying t)]
 | .insert t _ _ _| .mapUpdate t _ _ _| .mapEntry t _ _| .entryStore t _ _ _| .lookup t _ _ _=>[jV (P.underlying t),JY P t]
 | .makeSlice t _ _=>[jV (P.underlying t),AL P t]
 |_=>[]
theorem FI{d:Option TypeDesc}(h:jV d= .str):d=some .string:=by unfold jV at h;split at h<;>first|rfl|cases h
theorem Lc{d:Option TypeDesc}{k:IntKind}(h:jV d= .int k):d=some (.int k):=by unfold jV at h;split at h<;>first|(cases h;rfl)|cases h
theorem U3{d:Option TypeDesc}{e:TypeId}(h:jV d= .sl e):d=some (.slice e):=by unfold jV at h;split at h<;>first|(cases h;rfl)|cases h
theorem FH{d:Option TypeDesc}{k v:TypeId}(h:jV d= .mp k v):d=some (.map k v):=by unfold jV at h;split at h<;>first|(cases h;rfl)|cases h
inductive aw where
 |mv (x:Operand)
 |pick (c a b:Operand)
 |box (t:TypeId) (x:Operand)
 |alloc (t:TypeId) (z:Value)
 |build (z:List Value) (parts:List (Nat×Nat×Operand))
 |bM (t:TypeId) (af:Nat) (parts:List Operand)
 |load (agg:Bool) (n:Nat) (x:Operand)
 |store (n:Nat) (x v:Operand)
 |kZ (x:Operand)
 |bin (op:BinOp) (x y:Operand)
 |iX (neg:Bool) (k:zX) (x y:Operand)
 |eqs (neg:Bool) (ks:List wY) (x y:Operand)
 |un (op:UnOp) (x:Operand)
 |mO (k:IntKind) (x:Operand)
 |qN (x:Operand)
 |nA (t:TypeId) (x:Operand)
 |gG (fn:Fn) (first captured:List Operand)
 |slice (af:Nat) (x:Operand) (lo hi:Option Operand)
 |jI (off:Nat) (x:Operand)
 |field (agg:Bool) (off n:Nat) (x:Operand)
 |gE (af:Nat) (x i:Operand)
 |jt (len af:Nat) (x i:Operand)
 |idxs (x i:Operand)
 |extract (x:Operand) (i:Nat)
 |call (f:FuncId) (args:List Operand)
 |dY (f:Operand) (args:List Operand)
 |len (str:Bool) (x:Operand)
 |append (t:TypeId) (af bytes:Nat) (z:List Value) (x y:Operand)
 |max2 (x y:Operand)
 |min2 (x y:Operand)
 |cH (op:Op) (ty:TypeId) (ti:List TI) (args:List Operand)
 |exts (op:Op) (ty:TypeId) (ti:List TI) (args:List Operand)
 |panic (x:Operand)
def over{α:Type}(l:List α)(o:Nat)(l':List α):List α:=l.take o++l'++l.drop (o+l'.length)
theorem RL.over{M:Mem}{xs xs':List AV}{cs cs':List Value}(h:RL M xs cs)(k:RL M xs' cs')(o:Nat):RL M (over xs o xs') (over cs o cs'):=by
 unfold Sx.over
 rw[k.1]
 exact RL.append (RL.append (h.take o) k) (h.drop _)
def oR(op:BinOp):Value→Value→(Value→Prop)→Prop
 | .int k a,.int k' b,K=>
  match op with
  | .add=>k=k'∧K (.int k (k.wrap (a+b)))
  | .sub=>k=k'∧K (.int k (k.wrap (a-b)))
  | .mul=>k=k'∧K (.int k (k.wrap (a * b)))
  | .quo=>k=k'∧b≠0∧K (.int k (k.wrap (a.tdiv b)))
  | .rem=>k=k'∧b≠0∧K (.int k (a.tmod b))
  | .eql=>k=k'∧K (.bool (decide (a=b)))
  | .neq=>k=k'∧K (.bool (!decide (a=b)))
  | .lss=>k=k'∧K (.bool (decide (a<b)))
  | .leq=>k=k'∧K (.bool (decide (a≤b)))
  | .gtr=>k=k'∧K (.bool (decide (b<a)))
  | .geq=>k=k'∧K (.bool (decide (b≤a)))
  | .and=>k=k'∧K (.int k (bits .and k a b))
  | .or=>k=k'∧K (.int k (bits .or k a b))
  | .xor=>k=k'∧K (.int k (bits .xor k a b))
  | .andNot=>k=k'∧K (.int k (bits .andNot k a b))
  | .shl=>0≤b∧b≤k.bits∧K (.int k (k.wrap (a * 2 ^ b.toNat)))
  | .shr=>0≤b∧b≤k.bits∧K (.int k (a / 2 ^ b.toNat))
 | .string a,.string b,K=>
  match op with
  | .add=>a.size+b.size≤9223372036854775807∧K (.string (a++b))
  | .eql=>K (.bool (decide (a=b)))
  | .neq=>K (.bool (!decide (a=b)))
  | .lss=>K (.bool (Op.bytesLess a.toList b.toList))
  | .leq=>K (.bool (Op.bytesLess a.toList b.toList || decide (a=b)))
  | .gtr=>K (.bool (!(Op.bytesLess a.toList b.toList || decide (a=b))))
  | .geq=>K (.bool (!Op.bytesLess a.toList b.toList))
  |_=>False
 |_,_,_=>False
def Dz:zX→AV→AV→Option Bool
 | .bool,.v (.bool a),.v (.bool b)=>some (a == b)
 | .slice,.sl true _ _,.v (.slice none _ _)=>some false
 | .slice,.v (.slice none _ _),.sl true _ _=>some false
 | .slice,.own ..,.v (.slice none _ _)=>some false
 | .slice,.v (.slice none _ _),.own .. =>some false
 | .slice,.ms ..,.v (.slice none _ _)=>some false
 | .slice,.v (.slice none _ _),.ms .. =>some false
 | .slice,.v (.slice (some _) _ _),.v (.slice none _ _)=>some false
 | .slice,.v (.slice none _ _),.v (.slice (some _) _ _)=>some false
 | .slice,.v (.slice none _ _),.v (.slice none _ _)=>some true
 | .map,.v (.map (some _)),.v (.map none)=>some false
 | .map,.v (.map none),.v (.map (some _))=>some false
 | .map,.v (.map none),.v (.map none)=>some true
 | .func,.v (.func ..),.v .nilFunc=>some false
 | .func,.v .nilFunc,.v (.func ..)=>some false
 | .func,.v .nilFunc,.v .nilFunc=>some true
 | .ptr,.lp ..,.v (.pointer none)=>some false
 | .ptr,.v (.pointer none),.lp .. =>some false
 | .ptr,.v (.pointer (some _)),.v (.pointer none)=>some false
 | .ptr,.v (.pointer none),.v (.pointer (some _))=>some false
 | .ptr,.v (.pointer none),.v (.pointer none)=>some true
 |_,_,_=>none
def vK:wY→AV→AV→Option Bool
 | .int,.v (.int k a),.v (.int k' b)=>if k=k' then some (decide (a=b))else none
 | .str,.v (.string a),.v (.string b)=>some (decide (a=b))
 | .bool,.v (.bool a),.v (.bool b)=>some (a == b)
 |_,_,_=>none
def sP:List wY→List AV→List AV→Option Bool
 |[],[],[]=>some true
 |k::ks,x::xs,y::ys=>match vK k x y with
  |some b=>(sP ks xs ys).map (b && ·)
  |none=>none
 |_,_,_=>none
def Li:UnOp→Value→Option Value
 | .neg,.int k n=>some (.int k (k.wrap (0-n)))
 | .not,.bool b=>some (.bool !b)
 |_,_=>none
def bo(rg:ag):List Operand→List AV
 |[]=>[]
 |x::l=>ev rg x::bo rg l
def AO:List AV→Option (List Value)
 |[]=>some []
 | .v x::l=>(AO l).map (x::·)
 |_::_=>none
def mR:List AV→Option (List Value)
 |[]=>some []
 | .v x::l=>(mR l).map (x::·)
 | .lp _ b o::l=>(mR l).map (.pointer (some ⟨b,o,none⟩)::·)
 | .agg xs::l=>match AO xs with
  |some cs=>(mR l).map (.agg cs.toArray::·)
  |none=>none
 |_::_=>none
def xD:List AV→List (Nat×Nat×AV)→Option (List AV)
 |c,[]=>some c
 |c,(off,n,x)::rest=>match x.cells? with
  |some l=>if l.length=n∧off+n≤c.length then xD (over c off l) rest else none
  |none=>none
def qQ(rg:ag):List (Nat×Nat×Operand)→List (Nat×Nat×AV)
 |[]=>[]
 |(o,n,x)::l=>(o,n,ev rg x)::qQ rg l
def rowsOf(af:Nat):List AV→Option (List (List AV))
 |[]=>some []
 |x::l=>match x.cells? with
  |some r=>if r.length=af then(rowsOf af l).map (r::·)else none
  |none=>none
def oD :Option AV→Option (Option Int)
 |none=>some none
 |some (.v (.int _ i))=>some (some i)
 |_=>none
def ck(b:UInt8):List AV:=[.v (.int .u8 b.toNat)]
def fb(af:Nat):AV→Option (List (List AV))
 | .sl _ e rows=>if e=af then some rows else none
 | .own e _ _ _ _ rows=>if e=af then some rows else none
 | .v (.slice none 0 0)=>some []
 | .v (.string s)=>if af=1 then some (s.data.toList.map ck)else none
 |_=>none
def yE(lt:Bool):Value→Value→Option Value
 | .int k x,.int k' y=>if k=k' then some (.int k (if lt then(if y<x then y else x)else(if y>x then y else x)))else none
 |_,_=>none
def Wm:Next→Value→Prop
 | .value v,u=>u=v
 | .skip,u=>u=undef
 |_,_=>False
def lG(P:Program)[Glob P](op:Op)(ty:TypeId)(ti:List TI)(args:List Operand)(as:List AV)(σ:Store)(Q:AV→Store→Prop):Prop:=
 gJ P op=ti→∀ (M:Mem) (w0:Base) (w:World) (ρ:Operand→Value),Inv P M w0 σ w→RL M as (args.map ρ)→
  ∃ nx w' M' x v σ',(execOp ρ ⟨none,op,ty, "",#[],none⟩).run P w= .ok nx w'∧Wm nx v∧M.le M'∧Inv P M' w0 σ' w'∧R M' x v∧Q x σ'
structure uH(P:Program)[Glob P](op:Op)(ty:TypeId)(ti:List TI)(args:List Operand)(as:List AV)(r:AV):Prop where
 sp:∀ σ,lG P op ty ti args as σ fun x σ'=>x=r∧σ'=σ
theorem lG.mono{P:Program}[Glob P]{op:Op}{ty:TypeId}{ti:List TI}{args:List Operand}{as:List AV}{σ:Store}{Q Q':AV→Store→Prop}(h:lG P op ty ti args as σ Q)(k:∀ x σ',Q x σ'→Q' x σ'):lG P op ty ti args as σ Q':=
 fun eH M w0 w ρ hI hR=>let⟨nx,w',M',x,v,σ',h1,h2,h3,h4,h5,h6⟩:=h eH M w0 w ρ hI hR;⟨nx,w',M',x,v,σ',h1,h2,h3,h4,h5,k _ _ h6⟩
def aj(P:Program)[Glob P](cfg:Nat→Nat)(d:Option Nat)(rg:ag)(σ:Store)(K:AV→Store→Prop)(E:List PanicEntry→Store→Prop):aw→Prop
 | .mv x=>K (ev rg x) σ
 | .pick c a b=>match ev rg c with
  | .v (.bool t)=>K (if t then ev rg a else ev rg b) σ
  |_=>False
 | .box _ x=>match(ev rg x).cells? with
  |some l=>∀ b,K (.lp (d.getD 0) b 0) ((d.getD 0,b,.cells l)::σ)
  |none=>False
 | .alloc _ z=>∀ b,K (.lp (d.getD 0) b 0) ((d.getD 0,b,.cells (z.cells.toList.map .v))::σ)
 | .build z parts=>match xD (z.map .v) (qQ rg parts)with
  |some l=>K (.agg l) σ
  |none=>False
 | .bM _ af parts=>match rowsOf af (bo rg parts)with
  |some rows=>rows.length≤1000000∧match cfg (d.getD 0)with
   |0=>K (.sl true af rows) σ
   |1=>0<af∧∀ b,K (.own af (d.getD 0) b (rows.length * af) (rows.length * af) rows) ((d.getD 0,b,.tail (rows.length * af) (rows.length * af))::σ)
   |3=>K (.fl af rows) σ
   |_=>∀ b,K (.ms (d.getD 0) b 0 rows.length rows.length) ((d.getD 0,b,.cells rows.flatten)::σ)
  |none=>False
 | .load agg n x=>match ev rg x with
  | .lp t b o=>match aR σ t with
   |some (b',.cells l)=>b=b'∧if agg then o+n≤l.length∧K (.agg ((l.drop o).take n)) σ else match l[o]? with
    |some y=>K y σ
    |none=>False
   |_=>False
  | .pc l=>if agg then n≤l.length∧K (.agg (l.take n)) σ else match l[0]? with
    |some y=>K y σ
    |none=>False
  | .v (.pointer (some ⟨g,0,none⟩))=>match Glob.av P g with
   |some l=>if agg then n≤l.length∧K (.agg (l.take n)) σ else match l[0]? with
    |some y=>K y σ
    |none=>False
   |none=>False
  |_=>False
 | .store n x y=>match ev rg x,(ev rg y).cells? with
  | .lp t b o,some l'=>match aR σ t with
   |some (b',.cells l)=>b=b'∧l'.length=n∧l'.all AV.one=true∧o+n≤l.length∧K (.v undef) (cM σ t b (.cells (over l o l')))
   |_=>False
  |_,_=>False
 | .kZ x=>match ev rg x with
  | .v (.pointer (some a))=>K (.v (.pointer (some a))) σ
  | .lp t b o=>K (.lp t b o) σ
  | .pc l=>K (.pc l) σ
  | .v (.func (.func f) a c)=>K (.v (.func (.func f) a c)) σ
  | .cl f a c=>K (.cl f a c) σ
  |_=>False
 | .bin op x y=>match ev rg x,ev rg y with
  | .v a,.v b=>oR op a b fun r=>K (.v r) σ
  |_,_=>False
 | .iX neg k x y=>match Dz k (ev rg x) (ev rg y)with
  |some b=>K (.v (.bool (b ^^ neg))) σ
  |none=>False
 | .eqs neg ks x y=>match(ev rg x).nP,(ev rg y).nP with
  |some xs,some ys=>match sP ks xs ys with
   |some b=>K (.v (.bool (b ^^ neg))) σ
   |none=>False
  |_,_=>False
 | .un op x=>match ev rg x with
  | .v a=>match Li op a with
   |some r=>K (.v r) σ
   |none=>False
  |_=>False
 | .mO k x=>match ev rg x with
  | .v (.int _ n)=>K (.v (.int k (k.wrap n))) σ
  |_=>False
 | .qN x=>match ev rg x with
  | .v (.string s)=>K (.v (.string s)) σ
  |_=>False
 | .nA t x=>K (.iK t (ev rg x)) σ
 | .gG fn first captured=>match mR (bo rg first),mR (bo rg captured)with
  |some a,some c=>K (.v (.func fn a.toArray c.toArray)) σ
  |_,_=>match fn with
   | .func f=>K (.cl f (bo rg first) (bo rg captured)) σ
   |_=>False
 | .slice af x lo hi=>match oD (lo.map (ev rg)),oD (hi.map (ev rg))with
  |some lo,some hi=>match ev rg x with
   | .sl nn e rows=>e=af∧0≤lo.getD 0∧lo.getD 0≤hi.getD rows.length∧hi.getD rows.length≤rows.length∧K (.sl nn af ((rows.take (hi.getD rows.length).toNat).drop (lo.getD 0).toNat)) σ
   | .own e tg b u c rows=>e=af∧0≤lo.getD 0∧lo.getD 0≤hi.getD rows.length∧hi.getD rows.length≤rows.length∧
     K (if hi.isNone then .own af tg b u c (rows.drop (lo.getD 0).toNat)else .sl true af ((rows.take (hi.getD rows.length).toNat).drop (lo.getD 0).toNat)) σ
   | .v (.slice none 0 0)=>lo.getD 0=0∧hi.getD 0=0∧K (.v (.slice none 0 0)) σ
   |_=>False
  |_,_=>False
 | .jI off x=>match ev rg x with
  | .lp t b o=>K (.lp t b (o+off)) σ
  | .pc l=>K (.pc (l.drop off)) σ
  |_=>False
 | .field agg off n x=>match(ev rg x).nP with
  |some l=>off+n≤l.length∧if agg then K (.agg ((l.drop off).take n)) σ else match l[off]? with
   |some y=>K y σ
   |none=>False
  |none=>False
 | .gE af x i=>match ev rg i with
  | .v (.int _ i)=>match ev rg x with
   | .sl _ e rows=>e=af∧0≤i∧i<rows.length∧K (.pc (rows.getD i.toNat [])) σ
   | .own e _ _ _ _ rows=>e=af∧0≤i∧i<rows.length∧K (.pc (rows.getD i.toNat [])) σ
   | .ms t b o n _=>0≤i∧i<n∧K (.lp t b (o+i.toNat * af)) σ
   |_=>False
  |_=>False
 | .jt n af x i=>match ev rg i with
  | .v (.int _ i)=>match ev rg x with
   | .lp t b o=>0≤i∧i<n∧K (.lp t b (o+i.toNat * af)) σ
   | .pc l=>0≤i∧i<n∧K (.pc (l.drop (i.toNat * af))) σ
   | .v (.pointer (some ⟨g,o,none⟩))=>∃ l,Glob.av P g=some l∧o=0∧0≤i∧i<n∧K (.pc (l.drop (i.toNat * af))) σ
   |_=>False
  |_=>False
 | .idxs x i=>match ev rg i,ev rg x with
  | .v (.int _ i),.v (.string s)=>∃ h:0≤i∧i<s.size,K (.v (.int .u8 (s[i.toNat]'(by omega)).toNat)) σ
  |_,_=>False
 | .extract x i=>match ev rg x with
  | .aT xs=>match xs[i]? with
   |some y=>K y σ
   |none=>False
  | .v (.tuple vs)=>match vs[i]? with
   |some y=>K (.v y) σ
   |none=>False
  |_=>False
 | .call f args=>se P f (bo rg args) σ K E
 | .dY f args=>match ev rg f with
  | .v (.func (.func f) a c)=>iU P f=true∧se P f (a.toList.map .v++bo rg args++c.toList.map .v) σ K E
  | .cl f a c=>iU P f=true∧se P f (a++bo rg args++c) σ K E
  |_=>False
 | .len true x=>match ev rg x with
  | .v (.string s)=>K (.v (.int .i64 s.size)) σ
  |_=>False
 | .len false x=>match ev rg x with
  | .v (.slice _ n _)=>K (.v (.int .i64 n)) σ
  | .ms _ _ _ n _=>K (.v (.int .i64 n)) σ
  | .sl _ _ rows=>(rows.length≤maxLen→K (.v (.int .i64 rows.length)) σ)
  | .own _ _ _ _ _ rows=>(rows.length≤maxLen→K (.v (.int .i64 rows.length)) σ)
  |_=>False
 | .append _ af bytes _ x y=>match ev rg x,fb af (ev rg y)with
  | .v (.slice none 0 0),some rows'=>rows'.length * bytes≤35184372088832∧
    (rows'=[]→K (.v (.slice none 0 0)) σ)∧(rows'≠[]→∀ b u c,u=rows'.length * af→K (.own af (d.getD 0) b u c rows') ((d.getD 0,b,.tail u c)::σ))
  | .own e tg b u c rows,some rows'=>e=af∧aR σ tg=some (b,.tail u c)∧(rows.length+rows'.length) * bytes≤35184372088832∧rows'.all (fun r=>r.all AV.one)=true∧
    ∀ b' u' c',(u=rows.length * af→u'=(rows.length+rows'.length) * af)→K (.own af tg b' u' c' (rows++rows')) (cM σ tg b' (.tail u' c'))
  | .fl e rows,some rows'=>e=af∧(rows.length+rows'.length) * bytes≤35184372088832∧(rows'=[]→K (.fl af rows) σ)∧(rows'≠[]→
    ∀ b u c,K (.own af (d.getD 0) b u c (rows++rows')) ((d.getD 0,b,.tail u c)::σ))
  |_,_=>False
 | .max2 x y=>match ev rg x,ev rg y with
  | .v a,.v b=>match yE false a b with
   |some r=>K (.v r) σ
   |none=>False
  |_,_=>False
 | .min2 x y=>match ev rg x,ev rg y with
  | .v a,.v b=>match yE true a b with
   |some r=>K (.v r) σ
   |none=>False
  |_,_=>False
 | .cH op ty ti args=>lG P op ty ti args (bo rg args) σ K
 | .exts op ty ti args=>lG P op ty ti args (bo rg args) σ K
 | .panic x=>match ev rg x with
  | .iK t y=>match mR [y]with
   |some [v]=>E [{v:= .iface t v,recovered:=false}] σ
   |_=>False
  |_=>False
end Go.Sx
