/-
  The layer Sx, first part: abstract values, what they stand for in a world, the invariant of a walk. Over any program.
-/
import Derived.Orders
import Derived.WalkKit
set_option linter.unusedVariables false
set_option linter.unusedSimpArgs false
set_option linter.unusedSectionVars false
abbrev Z9:= @List.length_cons
abbrev Z8:= @Nat.le_of_ble_eq_true
abbrev Z7:= @List.length_append
abbrev Z6:= @List.getElem?_eq_getElem
abbrev Z5:= @Option.some.injEq
abbrev Z4:= @List.length_nil
abbrev Z3:= @List.length_map
abbrev Z2:= @Array.getD_eq_getD_getElem?
abbrev Z1:= @List.getD_eq_getElem?_getD
abbrev Z0:= @Bool.and_eq_true
abbrev ZY:= @List.size_toArray
abbrev ZX:= @List.mem_cons_of_mem
abbrev ZW:= @List.cons.injEq
abbrev ZV:= @List.mem_cons
abbrev ZU:= @List.mem_cons_self
abbrev ZT:= @List.length_take
abbrev ZS:= @Bool.false_eq_true
abbrev ZR:= @Option.map_eq_some_iff
abbrev ZQ:= @Array.getElem?_eq_getElem
abbrev ZO:= @List.eq_nil_of_length_eq_zero
abbrev ZN:= @List.getElem?_eq_some_iff
abbrev ZM:= @Array.all_eq_true_iff_forall_mem
abbrev ZL:= @Nat.eq_of_beq_eq_true
abbrev ZK:= @Nat.zero_le
abbrev ZI:= @Nat.le_refl
abbrev ZH:= @List.map_cons
abbrev ZG:= @List.takeWhile_cons
abbrev ZF:= @List.all_eq_true
abbrev ZE:= @Option.getD_some
abbrev ZD:= @List.cons_append
abbrev ZC:= @List.take_of_length_le
abbrev ZB:= @decide_eq_true_eq
abbrev ZA:= @List.append_assoc
abbrev Zz:= @Array.getElem?_setIfInBounds
abbrev Zy:= @List.mem_append_left
abbrev Zx:= @List.length_drop
abbrev Zv:= @List.take_succ_eq_append_getElem
abbrev Zu:= @Option.map_some
abbrev Zt:= @if_false
abbrev Zq:= @Array.getElem?_eq_some_iff
abbrev Zp:= @decide_eq_false
abbrev Zn:= @List.append_nil
abbrev Zm:= @List.mem_append
abbrev Zl:= @Bool.or_eq_true
abbrev Zk:= @List.getElem?_append_left
abbrev Zj:= @List.mem_append_right
abbrev Zi:= @decide_eq_true
abbrev Zh:= @Nat.zero_add
abbrev Zg:= @List.getElem_map
abbrev Zf:= @Option.some.inj
abbrev Ze:= @List.nil_append
abbrev Zd:= @List.mem_iff_getElem
abbrev Za:= @Array.getElem?_setIfInBounds_ne
abbrev Y9:= @List.drop_eq_getElem_cons
abbrev Y8:= @Int.toNat_natCast
abbrev Y7:= @if_true
abbrev Y6:= @Prod.mk.injEq
abbrev Y5:= @List.mem_range
abbrev Y4:= @Decidable.not_not
abbrev Y3:= @List.mem_singleton
abbrev Y2:= @List.map_append
abbrev Y1:= @List.length_pos_iff
abbrev Y0:= @List.getElem_mem
abbrev YZ:= @List.mem_filter
abbrev YX:= @List.map_nil
abbrev YW:= @List.length_replicate
abbrev YV:= @Bool.not_eq_true'
abbrev YU:= @beq_eq_false_iff_ne
abbrev YT:= @List.mem_map_of_mem
abbrev YS:= @List.mem_map
abbrev YR:= @List.getElem?_append_right
abbrev YQ:= @List.take_append_of_le_length
abbrev YP:= @Array.ext'
abbrev YO:= @List.map_eq_nil_iff
abbrev YN:= @Nat.add_zero
abbrev YM:= @Nat.blt_eq
abbrev YL:= @Nat.add_mul
abbrev YK:= @List.drop_drop
abbrev YJ:= @Nat.beq_refl
abbrev YI:= @List.getElem_cons_zero
abbrev YH:= @Array.length_toList
abbrev YG:= @Nat.le_trans
abbrev YF:= @List.nodup_cons
abbrev YE:= @List.cons_ne_nil
abbrev YD:= @Bool.eq_iff_iff
abbrev YC:= @Nat.mul_comm
abbrev YB:= @Nat.lt_trichotomy
abbrev YA:= @List.getElem_drop
abbrev Yz:= @Array.getElem_mem
abbrev Yy:= @UInt8.toNat_inj
abbrev Yx:= @Nat.succ_mul
abbrev Yw:= @List.map_map
abbrev Yv:= @List.filter_eq_nil_iff
abbrev Yu:= @Int.le_refl
abbrev Yt:= @Bool.not_eq_true
abbrev Ys:= @List.getElem?_drop
abbrev Yr:= @List.cons_prefix_cons
abbrev Yq:= @Array.getElem?_modify
abbrev Yp:= @List.getElem_append_right
abbrev Yo:= @List.mem_of_mem_tail
abbrev Yn:= @List.flatten_cons
abbrev Ym:= @Option.isSome_iff_exists
abbrev Yl:= @List.take_succ_cons
abbrev Yk:= @List.perm_middle
abbrev Yj:= @List.not_mem_nil
abbrev Yi:= @List.filter_cons
abbrev Yh:= @List.drop_take
abbrev Yg:= @List.any_eq_true
abbrev Yf:= @exists_false
abbrev Ye:= @exists_const
abbrev Yd:= @List.pairwise_cons
abbrev Yc:= @List.drop_of_length_le
abbrev Yb:= @List.drop_eq_nil_of_le
abbrev Ya:= @and_assoc
abbrev X9:= @List.map_drop
abbrev X8:= @List.getElem?_map
abbrev X7:= @Array.any_eq_true
abbrev X6:= @Array.getElem?_setIfInBounds_self_of_lt
abbrev X5:= @List.range_eq_range'
abbrev X4:= @Array.getElem?_append_left
abbrev X3:= @List.tail_suffix
abbrev X2:= @List.getD_cons_succ
abbrev X0:= @List.drop_succ_cons
abbrev XZ:= @List.map_take
abbrev XY:= @List.drop_one
abbrev XW:= @cond_false
abbrev XU:= @Nat.mul_one
abbrev XT:= @List.nodup_append
abbrev XQ:= @List.getElem_cons_succ
abbrev XP:= @Bool.not_false
abbrev XO:= @List.length_filter_le
abbrev XN:= @List.getElem?_toArray
abbrev XM:= @Array.mem_of_getElem?
namespace Go.Sx
inductive AV where
 |v (x:Value)
 |any
 |agg (xs:List AV)
 |aI (xs:List AV)
 |sl (nn:Bool) (ag:Nat) (rows:List (List AV))
 |own (ag t b u c:Nat) (rows:List (List AV))
 |ms (t b o n c:Nat)
 |pc (l:List AV)
 |gM (t:TypeId) (x:AV)
 |lp (t b o:Nat)
 |eA (t b:Nat)
 |ai (k:IntKind)
 |cl (f:FuncId) (a c:List AV)
 |fl (ag:Nat) (rows:List (List AV))
deriving Inhabited
abbrev Mem:=Nat→Nat→Option Value
def Mem.le(M M':Mem):Prop:=∀ b o v,M b o=some v→M' b o=some v
theorem Mem.le.refl(M:Mem):M.le M:=fun _ _ _ h=>h
theorem Mem.le.trans{A B C:Mem}(h:A.le B)(k:B.le C):A.le C:=fun b o v x=>k b o v (h b o v x)
inductive R(M:Mem):AV→Value→Prop
 |v (x:Value):R M (.v x) x
 |any (x:Value):R M .any x
 |agg (xs:List AV) (cs:List Value) (hl:xs.length=cs.length) (h:∀ i (h1:i<xs.length) (h2:i<cs.length),R M xs[i] cs[i]):R M (.agg xs) (.agg cs.toArray)
 |aI (xs:List AV) (cs:List Value) (hl:xs.length=cs.length) (h:∀ i (h1:i<xs.length) (h2:i<cs.length),R M xs[i] cs[i]):R M (.aI xs) (.tuple cs.toArray)
 |nil (nn:Bool) (ag:Nat) (a:Option Addr) (h:nn=true→a.isSome=true):R M (.sl nn ag []) (.slice a 0 0)
 |sl (nn:Bool) (ag:Nat) (rows:List (List AV)) (b off cap:Nat) (cs:Nat→Value) (hsz:∀ i (h:i<rows.length),rows[i].length=ag)
   (hM:∀ k,k<rows.length * ag→M b (off+k)=some (cs k))
   (hR:∀ i (h:i<rows.length) j (h2:j<rows[i].length),R M rows[i][j] (cs (i * ag+j)))
   (hc:rows.length≤cap) (hm:cap≤maxLen):R M (.sl nn ag rows) (.slice (some ⟨b,off,none⟩) rows.length cap)
 |ms (t b o n c:Nat):R M (.ms t b o n c) (.slice (some ⟨b,o,none⟩) n c)
 |own (ag t b u c:Nat) (rows:List (List AV)) (off cap:Nat) (cs:Nat→Value) (hsz:∀ i (h:i<rows.length),rows[i].length=ag)
   (hM:∀ k,k<rows.length * ag→M b (off+k)=some (cs k))
   (hR:∀ i (h:i<rows.length) j (h2:j<rows[i].length),R M rows[i][j] (cs (i * ag+j)))
   (hc:rows.length≤cap) (hm:cap≤maxLen) (hu:cap=0∨(off+rows.length * ag=u∧off+cap * ag≤c)) (he:0<ag):R M (.own ag t b u c rows) (.slice (some ⟨b,off,none⟩) rows.length cap)
 |pc (l:List AV) (b off:Nat) (cs:Nat→Value) (hM:∀ k,k<l.length→M b (off+k)=some (cs k))
   (hR:∀ k (h:k<l.length),R M l[k] (cs k)):R M (.pc l) (.pointer (some ⟨b,off,none⟩))
 |gM (t:TypeId) (x:AV) (v:Value) (h:R M x v):R M (.gM t x) (.iface t v)
 |lp (t b o:Nat):R M (.lp t b o) (.pointer (some ⟨b,o,none⟩))
 |eA (t b:Nat):R M (.eA t b) (.map (some b))
 |ai (k:IntKind) (n:Int):R M (.ai k) (.int k n)
 |cl (f:FuncId) (a c:List AV) (va vc:List Value) (hl:a.length=va.length) (gd:c.length=vc.length) (h:∀ i (h1:i<a.length) (h2:i<va.length),R M a[i] va[i])
   (h':∀ i (h1:i<c.length) (h2:i<vc.length),R M c[i] vc[i]):R M (.cl f a c) (.func (.func f) va.toArray vc.toArray)
 |fl (ag:Nat) (rows:List (List AV)) (b off:Nat) (cs:Nat→Value) (hsz:∀ i (h:i<rows.length),rows[i].length=ag)
   (hM:∀ k,k<rows.length * ag→M b (off+k)=some (cs k))
   (hR:∀ i (h:i<rows.length) j (h2:j<rows[i].length),R M rows[i][j] (cs (i * ag+j)))
   (hm:rows.length≤maxLen):R M (.fl ag rows) (.slice (some ⟨b,off,none⟩) rows.length rows.length)
theorem R.mono{M M':Mem}(hM:M.le M'){x:AV}{v:Value}(h:R M x v):R M' x v:=by
 induction h with
 |v x=>exact .v x
 |any x=>exact .any x
 |agg xs cs hl _ ih=>exact .agg xs cs hl ih
 |aI xs cs hl _ ih=>exact .aI xs cs hl ih
 |nil nn ag a h=>exact .nil nn ag a h
 |sl nn ag rows b off cap cs hsz hm _ hc hx ih=>exact .sl nn ag rows b off cap cs hsz (fun k hk=>hM _ _ _ (hm k hk)) ih hc hx
 |ms t b o n c=>exact .ms t b o n c
 |own ag t b u c rows off cap cs hsz hm _ hc hx hu he ih=>exact .own ag t b u c rows off cap cs hsz (fun k hk=>hM _ _ _ (hm k hk)) ih hc hx hu he
 |pc l b off cs hm _ ih=>exact .pc l b off cs (fun k hk=>hM _ _ _ (hm k hk)) ih
 |gM t x v _ ih=>exact .gM t x v ih
 |lp t b o=>exact .lp t b o
 |eA t b=>exact .eA t b
 |ai k n=>exact .ai k n
 |cl f a c va vc hl gd _ _ ih fC=>exact .cl f a c va vc hl gd ih fC
 |fl ag rows b off cs hsz hm _ hx ih=>exact .fl ag rows b off cs hsz (fun k hk=>hM _ _ _ (hm k hk)) ih hx
def RL(M:Mem)(xs:List AV)(cs:List Value):Prop:=xs.length=cs.length∧∀ i (h1:i<xs.length) (h2:i<cs.length),R M xs[i] cs[i]
theorem RL.mono{M M':Mem}(hM:M.le M'){xs:List AV}{cs:List Value}(h:RL M xs cs):RL M' xs cs:=⟨h.1,fun i a b=>(h.2 i a b).mono hM⟩
theorem RL.nil{M:Mem}:RL M [] []:=⟨rfl,fun i h=>absurd h (by simp)⟩
theorem RL.cons{M:Mem}{x:AV}{v:Value}{xs:List AV}{cs:List Value}(h:R M x v)(t:RL M xs cs):RL M (x::xs) (v::cs):=by
 refine⟨by simp[t.1],fun i h1 h2=> ?_⟩
 cases i with
 |zero=>exact h
 |succ i=>simpa using t.2 i (by grind) (by grind)
theorem RL.cN{M:Mem}{x:AV}{xs:List AV}{cs:List Value}(h:RL M (x::xs) cs):∃ v cs',cs=v::cs'∧R M x v∧RL M xs cs':=by
 obtain⟨hl,hr⟩:=h
 cases cs with
 |nil=>grind
 |cons v cs'=>
  exact⟨v,cs',rfl,hr 0 (by simp) (by simp),by grind,fun i h1 h2=>hr (i+1) (by grind) (by grind)⟩
theorem RL.ub{M:Mem}{cs:List Value}(h:RL M [] cs):cs=[]:=by
 have:=h.1;simp at this;exact ZO this.symm
theorem RL.append{M:Mem}{xs ys:List AV}{cs ds:List Value}(h:RL M xs cs)(k:RL M ys ds):RL M (xs++ys) (cs++ds):=by
 induction xs generalizing cs with
 |nil=>obtain rfl:=h.ub;grind
 |cons x xs ih=>obtain⟨v,cs',rfl,a,b⟩:=h.cN;exact RL.cons a (ih b)
theorem RL.get{M:Mem}{xs:List AV}{cs:List Value}(h:RL M xs cs){i:Nat}{x:AV}(hx:xs[i]? =some x):∃ v,cs[i]? =some v∧R M x v:=by
 obtain⟨hi,rfl⟩:=ZN.1 hx
 have h2:i<cs.length:=h.1 ▸ hi
 exact⟨cs[i],Z6 h2,h.2 i hi h2⟩
theorem RL.drop{M:Mem}{xs:List AV}{cs:List Value}(h:RL M xs cs)(n:Nat):RL M (xs.drop n) (cs.drop n):=by
 refine⟨by simp[h.1],fun i h1 h2=> ?_⟩
 simp
 exact h.2 _ _ _
theorem RL.take{M:Mem}{xs:List AV}{cs:List Value}(h:RL M xs cs)(n:Nat):RL M (xs.take n) (cs.take n):=by
 refine⟨by simp[h.1],fun i h1 h2=> ?_⟩
 simp
 exact h.2 _ _ _
theorem RL.set{M:Mem}{xs:List AV}{cs:List Value}(h:RL M xs cs)(n:Nat){x:AV}{v:Value}(hx:R M x v):RL M (xs.set n x) (cs.set n v):=by
 refine⟨by simp[h.1],fun i h1 h2=> ?_⟩
 simp only[List.getElem_set]
 split
 ·exact hx
 ·exact h.2 _ _ _
theorem RL.exact{M:Mem}(cs:List Value):RL M (cs.map .v) cs:=⟨by simp,fun i h1 h2=>by simpa using R.v _⟩
theorem R.vS{M:Mem}{xs:List AV}{v:Value}(h:R M (.agg xs) v):∃ cs,v= .agg cs.toArray∧RL M xs cs:=by
 cases h with
 |agg _ cs hl hr=>exact⟨cs,rfl,hl,hr⟩
theorem R.tA{M:Mem}{xs:List AV}{cs:List Value}(h:RL M xs cs):R M (.agg xs) (.agg cs.toArray):= .agg xs cs h.1 h.2
theorem R.BI{M:Mem}{xs:List AV}{v:Value}(h:R M (.aI xs) v):∃ cs,v= .tuple cs.toArray∧RL M xs cs:=by
 cases h with
 |aI _ cs hl hr=>exact⟨cs,rfl,hl,hr⟩
theorem R.FE{M:Mem}{xs:List AV}{cs:List Value}(h:RL M xs cs):R M (.aI xs) (.tuple cs.toArray):= .aI xs cs h.1 h.2
theorem R.az{M:Mem}{x v:Value}(h:R M (.v x) v):v=x:=by cases h;rfl
theorem R.ot{M:Mem}{l:List AV}{v:Value}(h:R M (.pc l) v):∃ b off,∃ cs:Nat→Value,v= .pointer (some ⟨b,off,none⟩)∧(∀ k,k<l.length→M b (off+k)=some (cs k))∧∀ k (h:k<l.length),R M l[k] (cs k):=by
 cases h with
 |pc _ b off cs h1 h2=>exact⟨b,off,cs,rfl,h1,h2⟩
structure Rows(M:Mem)(b off ag:Nat)(rows:List (List AV))(cs:Nat→Value):Prop where
 size:∀ i (h:i<rows.length),rows[i].length=ag
 mem:∀ k,k<rows.length * ag→M b (off+k)=some (cs k)
 rel:∀ i (h:i<rows.length) j (h2:j<rows[i].length),R M rows[i][j] (cs (i * ag+j))
theorem R.pD{M:Mem}{nn:Bool}{ag:Nat}{rows:List (List AV)}{v:Value}(h:R M (.sl nn ag rows) v):(∃ a:Option Addr,(nn=true→a.isSome=true)∧rows=[]∧v= .slice a 0 0)∨
  ∃ b off cap cs,v= .slice (some ⟨b,off,none⟩) rows.length cap∧Rows M b off ag rows cs∧rows.length≤cap∧cap≤maxLen:=by
 cases h with
 |nil _ _ a h=>grind
 |sl _ _ _ b off cap cs h1 h2 h3 h4 h5=>exact .inr ⟨b,off,cap,cs,rfl,⟨h1,h2,h3⟩,h4,h5⟩
theorem R.lS{M:Mem}{b off cap ag:Nat}{cs:Nat→Value}{rows:List (List AV)}(h:Rows M b off ag rows cs)(h4:rows.length≤cap)(h5:cap≤maxLen)(nn:Bool):R M (.sl nn ag rows) (.slice (some ⟨b,off,none⟩) rows.length cap):=
 .sl nn ag rows b off cap cs h.size h.mem h.rel h4 h5
theorem R.yK{M:Mem}{t b o n c:Nat}{v:Value}(h:R M (.ms t b o n c) v):v= .slice (some ⟨b,o,none⟩) n c:=by cases h;rfl
theorem R.qZ{M:Mem}{ag t b u c:Nat}{rows:List (List AV)}{v:Value}(h:R M (.own ag t b u c rows) v):
  ∃ off cap cs,v= .slice (some ⟨b,off,none⟩) rows.length cap∧Rows M b off ag rows cs∧rows.length≤cap∧cap≤maxLen∧(cap=0∨(off+rows.length * ag=u∧off+cap * ag≤c))∧0<ag:=by
 cases h with
 |own _ _ _ _ _ _ off cap cs h1 h2 h3 h4 h5 h6 h8=>exact⟨off,cap,cs,rfl,⟨h1,h2,h3⟩,h4,h5,h6,h8⟩
theorem R.pC{M:Mem}{t b u c off cap ag:Nat}{cs:Nat→Value}{rows:List (List AV)}(h:Rows M b off ag rows cs)(h4:rows.length≤cap)(h5:cap≤maxLen)(h6:cap=0∨(off+rows.length * ag=u∧off+cap * ag≤c))(h8:0<ag):
  R M (.own ag t b u c rows) (.slice (some ⟨b,off,none⟩) rows.length cap):= .own ag t b u c rows off cap cs h.size h.mem h.rel h4 h5 h6 h8
theorem R.adn{M:Mem}{ag t b u c:Nat}{rows:List (List AV)}{v:Value}(h:R M (.own ag t b u c rows) v)(nn:Bool):R M (.sl nn ag rows) v:=by
 obtain⟨off,cap,cs,rfl,hr,h4,h5,_⟩:=h.qZ
 exact R.lS hr h4 h5 nn
theorem R.Nq{M:Mem}{ag:Nat}{rows:List (List AV)}{v:Value}(h:R M (.fl ag rows) v):∃ b off cs,v= .slice (some ⟨b,off,none⟩) rows.length rows.length∧Rows M b off ag rows cs∧rows.length≤maxLen:=by
 cases h with
 |fl _ _ b off cs h1 h2 h3 h4=>exact⟨b,off,cs,rfl,⟨h1,h2,h3⟩,h4⟩
theorem R.acL{M:Mem}{b off ag:Nat}{cs:Nat→Value}{rows:List (List AV)}(h:Rows M b off ag rows cs)(h5:rows.length≤maxLen):R M (.fl ag rows) (.slice (some ⟨b,off,none⟩) rows.length rows.length):=
 .fl ag rows b off cs h.size h.mem h.rel h5
theorem R.Wx{M:Mem}{ag:Nat}{rows:List (List AV)}{v:Value}(h:R M (.fl ag rows) v)(nn:Bool):R M (.sl nn ag rows) v:=by
 obtain⟨b,off,cs,rfl,hr,h5⟩:=h.Nq
 exact R.lS hr (ZI _) h5 nn
theorem R.ax2{M:Mem}{ag:Nat}{rows:List (List AV)}{v:Value}(h:R M (.sl true ag rows) v):R M (.sl false ag rows) v:=by
 rcases h.pD with⟨a,_,rfl,rfl⟩|⟨b,off,cap,cs,rfl,hr,h4,h5⟩
 ·exact .nil _ _ _ (fun h=>nomatch h)
 ·exact R.lS hr h4 h5 _
theorem R.mQ{M:Mem}{t b o:Nat}{v:Value}(h:R M (.lp t b o) v):v= .pointer (some ⟨b,o,none⟩):=by cases h;rfl
theorem R.yJ{M:Mem}{t b:Nat}{v:Value}(h:R M (.eA t b) v):v= .map (some b):=by cases h;rfl
theorem R.ac8{M:Mem}{k:IntKind}{v:Value}(h:R M (.ai k) v):∃ n,v= .int k n:=by cases h with|ai _ n=>exact⟨n,rfl⟩
theorem R.Np{M:Mem}{f:FuncId}{a c:List AV}{v:Value}(h:R M (.cl f a c) v):∃ va vc:List Value,v= .func (.func f) va.toArray vc.toArray∧RL M a va∧RL M c vc:=by
 cases h with
 |cl _ _ _ va vc hl gd h h'=>exact⟨va,vc,rfl,⟨hl,h⟩,⟨gd,h'⟩⟩
theorem R.acK{M:Mem}{f:FuncId}{a c:List AV}{va vc:List Value}(h:RL M a va)(h':RL M c vc):R M (.cl f a c) (.func (.func f) va.toArray vc.toArray):= .cl f a c va vc h.1 h'.1 h.2 h'.2
theorem R.Nr{M:Mem}{t:TypeId}{x:AV}{v:Value}(h:R M (.gM t x) v):∃ u,v= .iface t u∧R M x u:=by
 cases h with
 |gM _ _ u h=>exact⟨u,rfl,h⟩
theorem acN{i n ag j:Nat}(hi:i<n)(hj:j<ag):i * ag+j<n * ag:=by
 have:(i+1) * ag≤n * ag:=Nat.mul_le_mul_right _ hi
 rw[Yx]at this
 omega
theorem Rows.mono{M M':Mem}(hM:M.le M'){b off ag:Nat}{rows:List (List AV)}{cs:Nat→Value}(h:Rows M b off ag rows cs):Rows M' b off ag rows cs:=
 ⟨h.size,fun k hk=>hM _ _ _ (h.mem k hk),fun i hi j hj=>(h.rel i hi j hj).mono hM⟩
theorem Rows.sub{M:Mem}{b off ag:Nat}{rows:List (List AV)}{cs:Nat→Value}(h:Rows M b off ag rows cs)(lo hi:Nat)(hh:hi≤rows.length)(hl:lo≤hi):
  Rows M b (off+lo * ag) ag ((rows.take hi).drop lo) (fun k=>cs (lo * ag+k)):=by
 have hlen:((rows.take hi).drop lo).length=hi-lo:=by grind
 refine⟨fun i h1=> ?_,fun k hk=> ?_,fun i h1 j h2=> ?_⟩
 ·simp
  exact h.size _ _
 ·rw[hlen]at hk
  have hb:lo * ag+k<rows.length * ag:=by
   have h1:(hi-lo) * ag+lo * ag=hi * ag:=by rw[← YL];grind
   have h2:hi * ag≤rows.length * ag:=Nat.mul_le_mul_right _ hh
   omega
  rw[Nat.add_assoc]
  exact h.mem _ hb
 ·have h3:lo+i<rows.length:=by grind
  have hj:j<rows[lo+i].length:=by grind
  have:=h.rel (lo+i) h3 j hj
  grind
theorem Rows.pc{M:Mem}{b off ag:Nat}{rows:List (List AV)}{cs:Nat→Value}(h:Rows M b off ag rows cs)(i:Nat)(hi:i<rows.length):
  R M (.pc (rows.getD i [])) (.pointer (some ⟨b,off+i * ag,none⟩)):=by
 have e:rows.getD i []=rows[i]:=by simp[hi]
 rw[e]
 refine .pc _ b _ (fun k=>cs (i * ag+k)) (fun k hk=> ?_) (fun k hk=>h.rel i hi k hk)
 rw[h.size i hi]at hk
 rw[Nat.add_assoc]
 exact h.mem _ (acN hi hk)
def AV.cells? :AV→Option (List AV)
 | .v (.agg cs)=>some (cs.toList.map .v)
 | .v (.tuple _)=>none
 | .agg xs=>some xs
 | .any=>none
 | .aI _=>none
 |x=>some [x]
def AV.ml :AV→Option (List AV)
 | .v (.agg cs)=>some (cs.toList.map .v)
 | .agg xs=>some xs
 |_=>none
theorem R.Dc{M:Mem}{x:AV}{v:Value}{l:List AV}(h:R M x v)(hl:x.ml =some l):∃ cs,v= .agg cs∧RL M l cs.toList:=by
 cases h with
 |v=>
  cases v with
  |agg cs=>simp[AV.ml]at hl;subst hl;exact⟨cs,rfl,RL.exact _⟩
  |_=>simp[AV.ml]at hl
 |agg xs cs gd hr=>simp[AV.ml]at hl;subst hl;exact⟨cs.toArray,rfl,gd,hr⟩
 |_=>simp[AV.ml]at hl
def AV.one:AV→Bool
 | .v x=>x.oneCell'
 | .any| .agg _| .aI _=>false
 |_=>true
theorem R.cells{M:Mem}{x:AV}{v:Value}{l:List AV}(h:R M x v)(hl:x.cells? =some l):RL M l v.cells.toList:=by
 cases h with
 |v=>
  cases v with
  |agg cs=>simp[AV.cells?]at hl;subst hl;exact RL.exact _
  |tuple _=>simp[AV.cells?]at hl
  |_=>simp only[AV.cells?,Z5]at hl;subst hl;exact RL.cons (.v _) RL.nil
 |any=>simp[AV.cells?]at hl
 |agg xs cs gd hr=>simp[AV.cells?]at hl;subst hl;exact⟨gd,hr⟩
 |aI=>simp[AV.cells?]at hl
 |nil nn ag a h=>simp only[AV.cells?,Z5]at hl;subst hl;exact RL.cons (.nil nn ag a h) RL.nil
 |sl nn ag rows b off cap cs a1 a2 a3 a4 a5=>simp only[AV.cells?,Z5]at hl;subst hl;exact RL.cons (.sl nn ag rows b off cap cs a1 a2 a3 a4 a5) RL.nil
 |ms t b o n c=>simp only[AV.cells?,Z5]at hl;subst hl;exact RL.cons (.ms t b o n c) RL.nil
 |own ag t b u c rows off cap cs a1 a2 a3 a4 a5 a6 a8=>simp only[AV.cells?,Z5]at hl;subst hl;exact RL.cons (.own ag t b u c rows off cap cs a1 a2 a3 a4 a5 a6 a8) RL.nil
 |pc l b off cs a1 a2=>simp only[AV.cells?,Z5]at hl;subst hl;exact RL.cons (.pc l b off cs a1 a2) RL.nil
 |gM t x v a=>simp only[AV.cells?,Z5]at hl;subst hl;exact RL.cons (.gM t x v a) RL.nil
 |lp t b o=>simp only[AV.cells?,Z5]at hl;subst hl;exact RL.cons (.lp t b o) RL.nil
 |eA t b=>simp only[AV.cells?,Z5]at hl;subst hl;exact RL.cons (.eA t b) RL.nil
 |ai k n=>simp only[AV.cells?,Z5]at hl;subst hl;exact RL.cons (.ai k n) RL.nil
 |cl f a c va vc a1 a2 a3 a4=>simp only[AV.cells?,Z5]at hl;subst hl;exact RL.cons (.cl f a c va vc a1 a2 a3 a4) RL.nil
 |fl ag rows b off cs a1 a2 a3 a4=>simp only[AV.cells?,Z5]at hl;subst hl;exact RL.cons (.fl ag rows b off cs a1 a2 a3 a4) RL.nil
theorem R.one{M:Mem}{x:AV}{v:Value}(h:R M x v)(hl:x.one=true):v.oneCell'=true:=by
 cases h<;>simp_all [AV.one,Value.oneCell']
inductive bN where
 |cells (l:List AV)
 |tail (u c:Nat)
 |map (es:List (Value×Nat×AV)) (k:Nat)
deriving Inhabited
abbrev ae:=List (Nat×AV)
abbrev Store:=List (Nat×Nat×bN)
def lk:ae→Nat→AV
 |[],_=> .any
 |(i,x)::r,j=>bif Nat.beq i j then x else lk r j
def aN:Store→Nat→Option (Nat×bN)
 |[],_=>none
 |(i,b,x)::r,j=>bif Nat.beq i j then some (b,x)else aN r j
def BlkOK(M:Mem)(w:World)(b:Nat):bN→Prop
 | .cells l=>(∀ o,M b o=none)∧∃ cs t,w.heap[b]? =some (.cells cs t (0,0))∧RL M l cs.toList
 | .tail u c=>(∀ o,u≤o→M b o=none)∧∃ cs t,w.heap[b]? =some (.cells cs t (0,0))∧cs.size=c∧u≤c
 | .map es k=>(∀ o,M b o=none)∧∃ l:List MapEntry,w.heap[b]? =some (.map l.toArray k)∧l.map (fun e=>(e.key,e.born))=es.map (fun e=>(e.1,e.2.1))∧RL M (es.map (·.2.2)) (l.map (·.val))
class Glob (P:Program) where
 av:Nat→Option (List AV)
 gw:World→Prop
 df:List Deferred:=[]
instance (priority:=low) Glob.empty (P:Program):Glob P:=⟨fun _=>none,fun _=>True,[]⟩
class jO (P:Program) [Glob P]:Prop where
 h:Glob.df P=[]
instance (priority:=low) jO.empty (P:Program): @jO P (Glob.empty P):= @jO.mk P (Glob.empty P) rfl
structure Base extends World where
 bm:Mem
instance:Coe Base World:=⟨Base.toWorld⟩
structure Inv(P:Program)[Glob P](M:Mem)(w0:Base)(σ:Store)(w:World):Prop where
 os:w.os=w0.os
 tape:w.tape=w0.tape
 output:w.output=w0.output
 size:w0.heap.size≤w.heap.size
 old:∀ k,k<w0.heap.size→w.heap[k]? =w0.heap[k]?
 dB:∀ b o v,M b o=some v→w.cell? ⟨b,o,none⟩=some v
 st:∀ e∈σ,w0.heap.size≤e.2.1∧BlkOK M w e.2.1 e.2.2
 nd:(σ.map (·.2.1)).Nodup
 gl:∀ g l,Glob.av P g=some l→R M (.pc l) (.pointer (some ⟨g,0,none⟩))
 gw:Glob.gw P w0
 bm:∀ b o v,M b o=some v→b<w0.heap.size→w0.bm b o=some v
def bE(M:Mem)(rg:ae)(a:Act):Prop:=∀ i,R M (lk rg i) (a.tmps.getD i undef)
theorem bE.mono{M M':Mem}(hM:M.le M'){rg:ae}{a:Act}(h:bE M rg a):bE M' rg a:=fun i=>(h i).mono hM
def ev(rg:ae):Operand→AV
 | .tmp t=>lk rg t
 | .const v=> .v v
 | .global g=> .v (.pointer (some ⟨g,0,none⟩))
 | .func f=> .v (.func (.func f) #[] #[])
theorem bE.ev{M:Mem}{rg:ae}{a:Act}(h:bE M rg a)(x:Operand):R M (ev rg x) (a.eval x):=by
 cases x with
 |tmp t=>exact h t
 |const v=>exact .v v
 |global g=>exact .v _
 |func f=>exact .v _
def bM(d:Option Nat)(x:AV)(rg:ae):ae:=match d with|some d=>(d,x)::rg|none=>rg
theorem bE.put{M:Mem}{rg:ae}{a:Act}(h:bE M rg a)(d:Option Nat){x:AV}{v:Value}(hd:∀ t,d=some t→t<a.tmps.size)(hx:R M x v):bE M (bM d x rg) (a.put d v):=by
 cases d with
 |none=>exact h
 |some d=>
  intro i
  simp only[bM,lk,Act.put]
  by_cases e:d=i
  ·simp_all
  ·have hb:Nat.beq d i=false:=by rw[← Yt,Nat.beq_eq];grind
   have:(a.tmps.setIfInBounds d v).getD i undef=a.tmps.getD i undef:=by
    simp_all
   rw[hb,this]
   exact h i
theorem Act.size_put(a:Act)(d:Option Nat)(v:Value):(a.put d v).tmps.size=a.tmps.size:=by cases d<;>simp[Act.put]
theorem Act.xB(a:Act)(d:Option Nat)(v:Value):(a.put d v).defers=a.defers:=by cases d<;>simp[Act.put]
def eY:List Nat→ae→ae
 |[],_=>[]
 |i::l,rg=>(i,lk rg i)::eY l rg
theorem bE.eY{M:Mem}{rg:ae}{a:Act}(h:bE M rg a)(l:List Nat):bE M (eY l rg) a:=by
 induction l with
 |nil=>exact fun i=> .any _
 |cons t l ih=>
  intro i
  simp only[Sx.eY,lk]
  cases hb:Nat.beq t i with
  |true=>rw[ZL hb];exact h i
  |false=>exact ih i
theorem Inv.drew{P:Program}[Glob P]{M:Mem}{w0:Base}{σ:Store}{w:World}(h:Inv P M w0 σ w)(n:Nat):Inv P M w0 σ {w with drawn:=n}:=
 ⟨h.os,h.tape,h.output,h.size,h.old,h.dB,h.st,h.nd,h.gl,h.gw,h.bm⟩
theorem BlkOK.lt{M:Mem}{w:World}{b:Nat}{x:bN}(h:BlkOK M w b x):b<w.heap.size:=by
 cases x with
 |cells l=>obtain⟨_,cs,t,hh,_⟩:=h;grind
 |tail u c=>obtain⟨_,cs,t,hh,_⟩:=h;grind
 |map es k=>obtain⟨_,l,hh,_⟩:=h;grind
theorem Inv.BA{P:Program}[Glob P]{M:Mem}{w0:Base}{σ:Store}{w:World}(h:Inv P M w0 σ w){e:Nat×Nat×bN}(he:e∈σ):e.2.1<w.heap.size:=(h.st e he).2.lt
theorem Inv.fresh{P:Program}[Glob P]{M:Mem}{w0:Base}{σ:Store}{w:World}(h:Inv P M w0 σ w):w.heap.size∉σ.map (·.2.1):=by
 intro hm
 obtain⟨e,he,h2⟩:=YS.1 hm
 have:=h.BA he
 omega
theorem qW:∀ {σ:Store} {t b:Nat} {x:bN},aN σ t=some (b,x)→(t,b,x)∈σ
 |[],t,b,x,h=>by cases h
 |(i,b',x')::r,t,b,x,h=>by
  simp only[aN]at h
  cases hb:Nat.beq i t with
  |true=>
   simp_all
  |false=>rw[hb]at h;exact ZX _ (qW h)
def ct:Store→Nat→Nat→bN→Store
 |[],_,_,_=>[]
 |(i,b',x')::r,t,b,x=>bif Nat.beq i t then(t,b,x)::r else(i,b',x')::ct r t b x
theorem rH:∀ {σ:Store} {t b:Nat} {x:bN},aN σ t=some (b,x)→∃ pre post,σ=pre++(t,b,x)::post∧∀ b' x',ct σ t b' x'=pre++(t,b',x')::post
 |[],t,b,x,h=>by cases h
 |(i,b0,x0)::r,t,b,x,h=>by
  simp only[aN]at h
  cases hb:Nat.beq i t with
  |true=>
   refine⟨[],r,by simp_all,fun b' x'=>by simp only[ct,hb,cond_true,Ze]⟩
  |false=>
   rw[hb]at h
   obtain⟨pre,post,h1,h2⟩:=rH h
   exact⟨(i,b0,x0)::pre,post,by grind,fun b' x'=>by simp only[ct,hb,XW,h2,ZD]⟩
theorem Inv.DV{P:Program}[Glob P]{M:Mem}{w0:Base}{σ:Store}{w:World}(h:Inv P M w0 σ w)(o:Nat):M w.heap.size o=none:=by
 cases e:M w.heap.size o with
 |none=>rfl
 |some x=>have:=World.block_lt_of_cell? _ _ (h.dB _ _ _ e);grind
theorem Ev(w:World)(o:Obj)(k:Nat)(h:k<w.heap.size):(w.alloc o).heap[k]? =w.heap[k]? :=by
 show(w.heap.push o)[k]? =_
 grind
theorem heap_alloc_new(w:World)(o:Obj):(w.alloc o).heap[w.heap.size]? =some o:=by
 show(w.heap.push o)[w.heap.size]? =_
 rw[Array.getElem?_push,if_pos rfl]
theorem BlkOK.heap{M:Mem}{w w':World}{b:Nat}{x:bN}(h:BlkOK M w b x)(e:w'.heap[b]? =w.heap[b]?):BlkOK M w' b x:=by
 cases x with
 |cells l=>obtain⟨a,cs,t,hh,r⟩:=h;exact⟨a,cs,t,e.trans hh,r⟩
 |tail u c=>obtain⟨a,cs,t,hh,r⟩:=h;exact⟨a,cs,t,e.trans hh,r⟩
 |map es k=>obtain⟨a,l,hh,r⟩:=h;exact⟨a,l,e.trans hh,r⟩
theorem Inv.alloc{P:Program}[Glob P]{M:Mem}{w0:Base}{σ:Store}{w:World}(h:Inv P M w0 σ w)(o:Obj):Inv P M w0 σ (w.alloc o):=by
 refine⟨h.os,h.tape,h.output,by simp;have:=h.size;omega,fun k hk=> ?_,fun b o' v hv=> ?_,fun e he=> ?_,h.nd,h.gl,h.gw,h.bm⟩
 ·rw[Ev _ _ _ (Nat.lt_of_lt_of_le hk h.size)];exact h.old k hk
 ·have:=h.dB b o' v hv
  rw[World.cell?_alloc_lt _ _ _ (World.block_lt_of_cell? _ _ this)];grind
 ·exact⟨(h.st e he).1,(h.st e he).2.heap (Ev _ _ _ (h.BA he))⟩
theorem Inv.box{P:Program}[Glob P]{M:Mem}{w0:Base}{σ:Store}{w:World}(h:Inv P M w0 σ w){cs:List Value}{l:List AV}(t:TypeId)(hl:RL M l cs)(tag:Nat):
  Inv P M w0 ((tag,w.heap.size,.cells l)::σ) (w.alloc (.cells cs.toArray t)):=by
 have h':=h.alloc (.cells cs.toArray t)
 refine⟨h'.os,h'.tape,h'.output,h'.size,h'.old,h'.dB,fun e he=> ?_,?_,h'.gl,h'.gw,h'.bm⟩
 ·rcases ZV.1 he with rfl|he
  ·exact⟨h.size,h.DV,cs.toArray,t,heap_alloc_new _ _,by grind⟩
  ·exact h'.st e he
 ·simp only[ZH,YF]
  exact⟨h.fresh,h.nd⟩
end Go.Sx
namespace Go.Sx
open Go.RowKit
inductive dj where
 |ret (x:AV)
 |cL (ch:List PanicEntry)
def uB(M:Mem):dj→Ending→Prop
 | .ret x,.returned v=>R M x v
 | .cL ch,.panicked Dw=>Dw=ch
 |_,_=>False
def Spec(P:Program)[Glob P](f:FuncId)(as:List AV)(σ:Store)(Q:dj→Store→Prop):Prop:=
 ∀ (M:Mem) (w0:Base) (w:World) (cs:List Value),Inv P M w0 σ w→RL M as cs→
  Calls P f cs.toArray w fun e w'=>∃ M' r σ',M.le M'∧Inv P M' w0 σ' w'∧uB M' r e∧Q r σ'
structure Pure(P:Program)[Glob P](f:FuncId)(as:List AV)(r:AV):Prop where
 sp:∀ σ,Spec P f as σ fun r' σ'=>r'= .ret r∧σ'=σ
def qd(P:Program)[Glob P](f:FuncId)(as:List AV)(σ:Store)(K:AV→Store→Prop)(E:List PanicEntry→Store→Prop):Prop:=
 ∃ Q:dj→Store→Prop,Spec P f as σ Q∧(∀ x σ',Q (.ret x) σ'→K x σ')∧(∀ ch σ',Q (.cL ch) σ'→E ch σ')
theorem callP_congr{P:Program}[Glob P]{f:FuncId}{as as':List AV}{σ:Store}{K:AV→Store→Prop}{E:List PanicEntry→Store→Prop}(h:as=as'):qd P f as σ K E=qd P f as' σ K E:=by rw[h]
theorem uO{P:Program}[Glob P]{f:FuncId}{as:List AV}{σ:Store}{K:AV→Store→Prop}{E:List PanicEntry→Store→Prop}{r:AV}(h:Pure P f as r)(k:K r σ):qd P f as σ K E:=
 ⟨_,h.sp σ,fun _ _ ⟨e,e'⟩=>by cases e;subst e';exact k,fun _ _ ⟨e,_⟩=>by cases e⟩
def gV(P:Program)[Glob P](f:FuncId):Bool:=
 match P.funcs[f]? with
 |some fn=>fn.name != "runtime.NumGoroutine" && fn.body.isSome
 |none=>false
inductive uz where
 |int|str|bool
deriving DecidableEq
inductive wW where
 |bool|slice|map|func|ptr
deriving DecidableEq
inductive TI where
 |str
 |int (k:IntKind)
 |sl (e:TypeId)
 |mp (k v:TypeId)
 |other
deriving DecidableEq
def jn:Option TypeDesc→TI
 |some .string=> .str
 |some (.int k)=> .int k
 |some (.slice e)=> .sl e
 |some (.map k v)=> .mp k v
 |_=> .other
def xE(P:Program)(t:TypeId):TI:=match P.underlying t with
 |some (.slice e)=>jn (P.underlying e)
 |_=> .other
def Fw(P:Program)(t:TypeId):TI:=match P.underlying t with
 |some (.map k _)=>jn (P.underlying k)
 |_=> .other
def fW(P:Program):Op→List TI
 | .convert s d _=>[jn (P.underlying s),xE P s,jn (P.underlying d),xE P d]
 | .slice t _ _ _ _=>[jn (P.underlying t)]
 | .insert t _ _ _| .mapUpdate t _ _ _| .mapEntry t _ _| .entryStore t _ _ _| .lookup t _ _ _=>[jn (P.underlying t),Fw P t]
 | .makeSlice t _ _=>[jn (P.underlying t),xE P t]
 |_=>[]
theorem Cj{d:Option TypeDesc}(h:jn d= .str):d=some .string:=by unfold jn at h;split at h<;>first|rfl|cases h
theorem GI{d:Option TypeDesc}{k:IntKind}(h:jn d= .int k):d=some (.int k):=by unfold jn at h;split at h<;>first|(cases h;rfl)|cases h
theorem Ph{d:Option TypeDesc}{e:TypeId}(h:jn d= .sl e):d=some (.slice e):=by unfold jn at h;split at h<;>first|(cases h;rfl)|cases h
theorem Ci{d:Option TypeDesc}{k v:TypeId}(h:jn d= .mp k v):d=some (.map k v):=by unfold jn at h;split at h<;>first|(cases h;rfl)|cases h
inductive aw where
 |mv (x:Operand)
 |pick (c a b:Operand)
 |box (t:TypeId) (x:Operand)
 |alloc (t:TypeId) (z:Value)
 |build (z:List Value) (parts:List (Nat×Nat×Operand))
 |aZ (t:TypeId) (ag:Nat) (parts:List Operand)
 |load (agg:Bool) (n:Nat) (x:Operand)
 |store (n:Nat) (x v:Operand)
 |j6 (x:Operand)
 |bin (op:BinOp) (x y:Operand)
 |gZ (neg:Bool) (k:wW) (x y:Operand)
 |eqs (neg:Bool) (ks:List uz) (x y:Operand)
 |un (op:UnOp) (x:Operand)
 |ly (k:IntKind) (x:Operand)
 |oU (x:Operand)
 |lT (t:TypeId) (x:Operand)
 |gi (fn:Fn) (first captured:List Operand)
 |slice (ag:Nat) (x:Operand) (lo hi:Option Operand)
 |iS (off:Nat) (x:Operand)
 |field (agg:Bool) (off n:Nat) (x:Operand)
 |eH (ag:Nat) (x i:Operand)
 |iH (len ag:Nat) (x i:Operand)
 |idxs (x i:Operand)
 |extract (x:Operand) (i:Nat)
 |call (f:FuncId) (args:List Operand)
 |dA (f:Operand) (args:List Operand)
 |len (str:Bool) (x:Operand)
 |append (t:TypeId) (ag bytes:Nat) (z:List Value) (x y:Operand)
 |max2 (x y:Operand)
 |min2 (x y:Operand)
 |cp (op:Op) (ty:TypeId) (ti:List TI) (args:List Operand)
 |exts (op:Op) (ty:TypeId) (ti:List TI) (args:List Operand)
 |panic (x:Operand)
def over{α:Type}(l:List α)(o:Nat)(l':List α):List α:=l.take o++l'++l.drop (o+l'.length)
theorem RL.over{M:Mem}{xs xs':List AV}{cs cs':List Value}(h:RL M xs cs)(k:RL M xs' cs')(o:Nat):RL M (over xs o xs') (over cs o cs'):=by
 unfold Sx.over
 rw[k.1]
 exact RL.append (RL.append (h.take o) k) (h.drop _)
def mW(op:BinOp):Value→Value→(Value→Prop)→Prop
 | .int k a,.int k' b,K=>
  match op with
  | .add=>k=k'∧K (.int k (k.wrap (a+b)))
  | .sub=>k=k'∧K (.int k (k.wrap (a-b)))
  | .mul=>k=k'∧K (.int k (k.wrap (a * b)))
  | .quo=>k=k'∧b≠0∧K (.int k (k.wrap (a.tdiv b)))
  | .rem=>k=k'∧b≠0∧K (.int k (a.tmod b))
  | .eql=>k=k'∧K (.bool (decide (a=b)))
  | .neq=>k=k'∧K (.bool (!decide (a=b)))
  | .lss=>k=k'∧K (.bool (decide (a<b)))
  | .leq=>k=k'∧K (.bool (decide (a≤b)))
  | .gtr=>k=k'∧K (.bool (decide (b<a)))
  | .geq=>k=k'∧K (.bool (decide (b≤a)))
  | .and=>k=k'∧K (.int k (bits .and k a b))
  | .or=>k=k'∧K (.int k (bits .or k a b))
  | .xor=>k=k'∧K (.int k (bits .xor k a b))
  | .andNot=>k=k'∧K (.int k (bits .andNot k a b))
  | .shl=>0≤b∧b≤k.bits∧K (.int k (k.wrap (a * 2 ^ b.toNat)))
  | .shr=>0≤b∧b≤k.bits∧K (.int k (a / 2 ^ b.toNat))
 | .string a,.string b,K=>
  match op with
  | .add=>a.size+b.size≤9223372036854775807∧K (.string (a++b))
  | .eql=>K (.bool (decide (a=b)))
  | .neq=>K (.bool (!decide (a=b)))
  | .lss=>K (.bool (Op.bytesLess a.toList b.toList))
  | .leq=>K (.bool (Op.bytesLess a.toList b.toList || decide (a=b)))
  | .gtr=>K (.bool (!(Op.bytesLess a.toList b.toList || decide (a=b))))
  | .geq=>K (.bool (!Op.bytesLess a.toList b.toList))
  |_=>False
 |_,_,_=>False
def AH:wW→AV→AV→Option Bool
 | .bool,.v (.bool a),.v (.bool b)=>some (a == b)
 | .slice,.sl true _ _,.v (.slice none _ _)=>some false
 | .slice,.v (.slice none _ _),.sl true _ _=>some false
 | .slice,.own ..,.v (.slice none _ _)=>some false
 | .slice,.v (.slice none _ _),.own .. =>some false
 | .slice,.ms ..,.v (.slice none _ _)=>some false
 | .slice,.v (.slice none _ _),.ms .. =>some false
 | .slice,.v (.slice (some _) _ _),.v (.slice none _ _)=>some false
 | .slice,.v (.slice none _ _),.v (.slice (some _) _ _)=>some false
 | .slice,.v (.slice none _ _),.v (.slice none _ _)=>some true
 | .map,.v (.map (some _)),.v (.map none)=>some false
 | .map,.v (.map none),.v (.map (some _))=>some false
 | .map,.v (.map none),.v (.map none)=>some true
 | .func,.v (.func ..),.v .nilFunc=>some false
 | .func,.v .nilFunc,.v (.func ..)=>some false
 | .func,.v .nilFunc,.v .nilFunc=>some true
 | .ptr,.lp ..,.v (.pointer none)=>some false
 | .ptr,.v (.pointer none),.lp .. =>some false
 | .ptr,.v (.pointer (some _)),.v (.pointer none)=>some false
 | .ptr,.v (.pointer none),.v (.pointer (some _))=>some false
 | .ptr,.v (.pointer none),.v (.pointer none)=>some true
 |_,_,_=>none
def tv:uz→AV→AV→Option Bool
 | .int,.v (.int k a),.v (.int k' b)=>if k=k' then some (decide (a=b))else none
 | .str,.v (.string a),.v (.string b)=>some (decide (a=b))
 | .bool,.v (.bool a),.v (.bool b)=>some (a == b)
 |_,_,_=>none
def qq:List uz→List AV→List AV→Option Bool
 |[],[],[]=>some true
 |k::ks,x::xs,y::ys=>match tv k x y with
  |some b=>(qq ks xs ys).map (b && ·)
  |none=>none
 |_,_,_=>none
def GU:UnOp→Value→Option Value
 | .neg,.int k n=>some (.int k (k.wrap (0-n)))
 | .not,.bool b=>some (.bool !b)
 |_,_=>none
def aU(rg:ae):List Operand→List AV
 |[]=>[]
 |x::l=>ev rg x::aU rg l
def xH:List AV→Option (List Value)
 |[]=>some []
 | .v x::l=>(xH l).map (x::·)
 |_::_=>none
def lB:List AV→Option (List Value)
 |[]=>some []
 | .v x::l=>(lB l).map (x::·)
 | .lp _ b o::l=>(lB l).map (.pointer (some ⟨b,o,none⟩)::·)
 | .agg xs::l=>match xH xs with
  |some cs=>(lB l).map (.agg cs.toArray::·)
  |none=>none
 |_::_=>none
def uX:List AV→List (Nat×Nat×AV)→Option (List AV)
 |c,[]=>some c
 |c,(off,n,x)::rest=>match x.cells? with
  |some l=>if l.length=n∧off+n≤c.length then uX (over c off l) rest else none
  |none=>none
def oY(rg:ae):List (Nat×Nat×Operand)→List (Nat×Nat×AV)
 |[]=>[]
 |(o,n,x)::l=>(o,n,ev rg x)::oY rg l
def rowsOf(ag:Nat):List AV→Option (List (List AV))
 |[]=>some []
 |x::l=>match x.cells? with
  |some r=>if r.length=ag then(rowsOf ag l).map (r::·)else none
  |none=>none
def oe :Option AV→Option (Option Int)
 |none=>some none
 |some (.v (.int _ i))=>some (some i)
 |_=>none
def bn(b:UInt8):List AV:=[.v (.int .u8 b.toNat)]
def eQ(ag:Nat):AV→Option (List (List AV))
 | .sl _ e rows=>if e=ag then some rows else none
 | .own e _ _ _ _ rows=>if e=ag then some rows else none
 | .v (.slice none 0 0)=>some []
 | .v (.string s)=>if ag=1 then some (s.data.toList.map bn)else none
 |_=>none
def vN(lt:Bool):Value→Value→Option Value
 | .int k x,.int k' y=>if k=k' then some (.int k (if lt then(if y<x then y else x)else(if y>x then y else x)))else none
 |_,_=>none
def Qo:Next→Value→Prop
 | .value v,u=>u=v
 | .skip,u=>u=undef
 |_,_=>False
def kh(P:Program)[Glob P](op:Op)(ty:TypeId)(ti:List TI)(args:List Operand)(as:List AV)(σ:Store)(Q:AV→Store→Prop):Prop:=
 fW P op=ti→∀ (M:Mem) (w0:Base) (w:World) (ρ:Operand→Value),Inv P M w0 σ w→RL M as (args.map ρ)→
  ∃ nx w' M' x v σ',(execOp ρ ⟨none,op,ty, "",#[],none⟩).run P w= .ok nx w'∧Qo nx v∧M.le M'∧Inv P M' w0 σ' w'∧R M' x v∧Q x σ'
structure OpP(P:Program)[Glob P](op:Op)(ty:TypeId)(ti:List TI)(args:List Operand)(as:List AV)(r:AV):Prop where
 sp:∀ σ,kh P op ty ti args as σ fun x σ'=>x=r∧σ'=σ
theorem kh.mono{P:Program}[Glob P]{op:Op}{ty:TypeId}{ti:List TI}{args:List Operand}{as:List AV}{σ:Store}{Q Q':AV→Store→Prop}(h:kh P op ty ti args as σ Q)(k:∀ x σ',Q x σ'→Q' x σ'):kh P op ty ti args as σ Q':=
 fun dR M w0 w ρ hI hR=>let⟨nx,w',M',x,v,σ',h1,h2,h3,h4,h5,h6⟩:=h dR M w0 w ρ hI hR;⟨nx,w',M',x,v,σ',h1,h2,h3,h4,h5,k _ _ h6⟩
def aj(P:Program)[Glob P](cfg:Nat→Nat)(d:Option Nat)(rg:ae)(σ:Store)(K:AV→Store→Prop)(E:List PanicEntry→Store→Prop):aw→Prop
 | .mv x=>K (ev rg x) σ
 | .pick c a b=>match ev rg c with
  | .v (.bool t)=>K (if t then ev rg a else ev rg b) σ
  |_=>False
 | .box _ x=>match(ev rg x).cells? with
  |some l=>∀ b,K (.lp (d.getD 0) b 0) ((d.getD 0,b,.cells l)::σ)
  |none=>False
 | .alloc _ z=>∀ b,K (.lp (d.getD 0) b 0) ((d.getD 0,b,.cells (z.cells.toList.map .v))::σ)
 | .build z parts=>match uX (z.map .v) (oY rg parts)with
  |some l=>K (.agg l) σ
  |none=>False
 | .aZ _ ag parts=>match rowsOf ag (aU rg parts)with
  |some rows=>rows.length≤1000000∧match cfg (d.getD 0)with
   |0=>K (.sl true ag rows) σ
   |1=>0<ag∧∀ b,K (.own ag (d.getD 0) b (rows.length * ag) (rows.length * ag) rows) ((d.getD 0,b,.tail (rows.length * ag) (rows.length * ag))::σ)
   |3=>K (.fl ag rows) σ
   |_=>∀ b,K (.ms (d.getD 0) b 0 rows.length rows.length) ((d.getD 0,b,.cells rows.flatten)::σ)
  |none=>False
 | .load agg n x=>match ev rg x with
  | .lp t b o=>match aN σ t with
   |some (b',.cells l)=>b=b'∧if agg then o+n≤l.length∧K (.agg ((l.drop o).take n)) σ else match l[o]? with
    |some y=>K y σ
    |none=>False
   |_=>False
  | .pc l=>if agg then n≤l.length∧K (.agg (l.take n)) σ else match l[0]? with
    |some y=>K y σ
    |none=>False
  | .v (.pointer (some ⟨g,0,none⟩))=>match Glob.av P g with
   |some l=>if agg then n≤l.length∧K (.agg (l.take n)) σ else match l[0]? with
    |some y=>K y σ
    |none=>False
   |none=>False
  |_=>False
 | .store n x y=>match ev rg x,(ev rg y).cells? with
  | .lp t b o,some l'=>match aN σ t with
   |some (b',.cells l)=>b=b'∧l'.length=n∧l'.all AV.one=true∧o+n≤l.length∧K (.v undef) (ct σ t b (.cells (over l o l')))
   |_=>False
  |_,_=>False
 | .j6 x=>match ev rg x with
  | .v (.pointer (some a))=>K (.v (.pointer (some a))) σ
  | .lp t b o=>K (.lp t b o) σ
  | .pc l=>K (.pc l) σ
  | .v (.func (.func f) a c)=>K (.v (.func (.func f) a c)) σ
  | .cl f a c=>K (.cl f a c) σ
  |_=>False
 | .bin op x y=>match ev rg x,ev rg y with
  | .v a,.v b=>mW op a b fun r=>K (.v r) σ
  |_,_=>False
 | .gZ neg k x y=>match AH k (ev rg x) (ev rg y)with
  |some b=>K (.v (.bool (b ^^ neg))) σ
  |none=>False
 | .eqs neg ks x y=>match(ev rg x).ml,(ev rg y).ml with
  |some xs,some ys=>match qq ks xs ys with
   |some b=>K (.v (.bool (b ^^ neg))) σ
   |none=>False
  |_,_=>False
 | .un op x=>match ev rg x with
  | .v a=>match GU op a with
   |some r=>K (.v r) σ
   |none=>False
  |_=>False
 | .ly k x=>match ev rg x with
  | .v (.int _ n)=>K (.v (.int k (k.wrap n))) σ
  |_=>False
 | .oU x=>match ev rg x with
  | .v (.string s)=>K (.v (.string s)) σ
  |_=>False
 | .lT t x=>K (.gM t (ev rg x)) σ
 | .gi fn first captured=>match lB (aU rg first),lB (aU rg captured)with
  |some a,some c=>K (.v (.func fn a.toArray c.toArray)) σ
  |_,_=>match fn with
   | .func f=>K (.cl f (aU rg first) (aU rg captured)) σ
   |_=>False
 | .slice ag x lo hi=>match oe (lo.map (ev rg)),oe (hi.map (ev rg))with
  |some lo,some hi=>match ev rg x with
   | .sl nn e rows=>e=ag∧0≤lo.getD 0∧lo.getD 0≤hi.getD rows.length∧hi.getD rows.length≤rows.length∧K (.sl nn ag ((rows.take (hi.getD rows.length).toNat).drop (lo.getD 0).toNat)) σ
   | .own e tg b u c rows=>e=ag∧0≤lo.getD 0∧lo.getD 0≤hi.getD rows.length∧hi.getD rows.length≤rows.length∧
     K (if hi.isNone then .own ag tg b u c (rows.drop (lo.getD 0).toNat)else .sl true ag ((rows.take (hi.getD rows.length).toNat).drop (lo.getD 0).toNat)) σ
   | .v (.slice none 0 0)=>lo.getD 0=0∧hi.getD 0=0∧K (.v (.slice none 0 0)) σ
   |_=>False
  |_,_=>False
 | .iS off x=>match ev rg x with
  | .lp t b o=>K (.lp t b (o+off)) σ
  | .pc l=>K (.pc (l.drop off)) σ
  |_=>False
 | .field agg off n x=>match(ev rg x).ml with
  |some l=>off+n≤l.length∧if agg then K (.agg ((l.drop off).take n)) σ else match l[off]? with
   |some y=>K y σ
   |none=>False
  |none=>False
 | .eH ag x i=>match ev rg i with
  | .v (.int _ i)=>match ev rg x with
   | .sl _ e rows=>e=ag∧0≤i∧i<rows.length∧K (.pc (rows.getD i.toNat [])) σ
   | .own e _ _ _ _ rows=>e=ag∧0≤i∧i<rows.length∧K (.pc (rows.getD i.toNat [])) σ
   | .ms t b o n _=>0≤i∧i<n∧K (.lp t b (o+i.toNat * ag)) σ
   |_=>False
  |_=>False
 | .iH n ag x i=>match ev rg i with
  | .v (.int _ i)=>match ev rg x with
   | .lp t b o=>0≤i∧i<n∧K (.lp t b (o+i.toNat * ag)) σ
   | .pc l=>0≤i∧i<n∧K (.pc (l.drop (i.toNat * ag))) σ
   | .v (.pointer (some ⟨g,o,none⟩))=>∃ l,Glob.av P g=some l∧o=0∧0≤i∧i<n∧K (.pc (l.drop (i.toNat * ag))) σ
   |_=>False
  |_=>False
 | .idxs x i=>match ev rg i,ev rg x with
  | .v (.int _ i),.v (.string s)=>∃ h:0≤i∧i<s.size,K (.v (.int .u8 (s[i.toNat]'(by omega)).toNat)) σ
  |_,_=>False
 | .extract x i=>match ev rg x with
  | .aI xs=>match xs[i]? with
   |some y=>K y σ
   |none=>False
  | .v (.tuple vs)=>match vs[i]? with
   |some y=>K (.v y) σ
   |none=>False
  |_=>False
 | .call f args=>qd P f (aU rg args) σ K E
 | .dA f args=>match ev rg f with
  | .v (.func (.func f) a c)=>gV P f=true∧qd P f (a.toList.map .v++aU rg args++c.toList.map .v) σ K E
  | .cl f a c=>gV P f=true∧qd P f (a++aU rg args++c) σ K E
  |_=>False
 | .len true x=>match ev rg x with
  | .v (.string s)=>K (.v (.int .i64 s.size)) σ
  |_=>False
 | .len false x=>match ev rg x with
  | .v (.slice _ n _)=>K (.v (.int .i64 n)) σ
  | .ms _ _ _ n _=>K (.v (.int .i64 n)) σ
  | .sl _ _ rows=>(rows.length≤maxLen→K (.v (.int .i64 rows.length)) σ)
  | .own _ _ _ _ _ rows=>(rows.length≤maxLen→K (.v (.int .i64 rows.length)) σ)
  |_=>False
 | .append _ ag bytes _ x y=>match ev rg x,eQ ag (ev rg y)with
  | .v (.slice none 0 0),some rows'=>rows'.length * bytes≤35184372088832∧
    (rows'=[]→K (.v (.slice none 0 0)) σ)∧(rows'≠[]→∀ b u c,u=rows'.length * ag→K (.own ag (d.getD 0) b u c rows') ((d.getD 0,b,.tail u c)::σ))
  | .own e tg b u c rows,some rows'=>e=ag∧aN σ tg=some (b,.tail u c)∧(rows.length+rows'.length) * bytes≤35184372088832∧rows'.all (fun r=>r.all AV.one)=true∧
    ∀ b' u' c',(u=rows.length * ag→u'=(rows.length+rows'.length) * ag)→K (.own ag tg b' u' c' (rows++rows')) (ct σ tg b' (.tail u' c'))
  | .fl e rows,some rows'=>e=ag∧(rows.length+rows'.length) * bytes≤35184372088832∧(rows'=[]→K (.fl ag rows) σ)∧(rows'≠[]→
    ∀ b u c,K (.own ag (d.getD 0) b u c (rows++rows')) ((d.getD 0,b,.tail u c)::σ))
  |_,_=>False
 | .max2 x y=>match ev rg x,ev rg y with
  | .v a,.v b=>match vN false a b with
   |some r=>K (.v r) σ
   |none=>False
  |_,_=>False
 | .min2 x y=>match ev rg x,ev rg y with
  | .v a,.v b=>match vN true a b with
   |some r=>K (.v r) σ
   |none=>False
  |_,_=>False
 | .cp op ty ti args=>kh P op ty ti args (aU rg args) σ K
 | .exts op ty ti args=>kh P op ty ti args (aU rg args) σ K
 | .panic x=>match ev rg x with
  | .gM t y=>match lB [y]with
   |some [v]=>E [{v:= .iface t v,recovered:=false}] σ
   |_=>False
  |_=>False
end Go.Sx
