import Derived.Orders
import Derived.WalkKit
set_option linter.all false
abbrev Z9:=@if_neg
abbrev Z8:=@Option.map_eq_some_iff
abbrev Z7:=@List.length_append
abbrev Z6:=@Bool.and_eq_true
abbrev Z5:=@List.length_map
abbrev Z4:=@Nat.zero_le
abbrev Z3:=@if_pos
abbrev Z2:=@List.cons.injEq
abbrev Z1:=@List.getD_eq_getElem?_getD
abbrev Z0:=@Nat.eq_of_beq_eq_true
abbrev ZY:=@List.length_cons
abbrev ZX:=@List.getElem?_eq_getElem
abbrev ZW:=@Array.getElem?_eq_some_iff
abbrev ZV:=@Option.some.injEq
abbrev ZU:=@List.take_succ_eq_append_getElem
abbrev ZT:=@Bool.false_eq_true
abbrev ZS:=@Array.getD_eq_getD_getElem?
abbrev ZR:=@List.mem_cons
abbrev ZQ:=@decide_eq_true_eq
abbrev ZP:=@List.length_nil
abbrev ZO:=@Nat.le_refl
abbrev ZN:=@List.mem_cons_of_mem
abbrev ZM:=@List.take_of_length_le
abbrev ZL:=@List.length_take
abbrev ZK:=@List.mem_cons_self
abbrev ZJ:=@Option.map_some
abbrev ZI:=@List.mem_append
abbrev ZH:=@Nat.zero_add
abbrev ZG:=@List.getElem?_eq_some_iff
abbrev ZF:=@Array.getElem?_eq_getElem
abbrev ZE:=@Nat.le_of_ble_eq_true
abbrev ZD:=@Nat.le_trans
abbrev ZC:=@Array.all_eq_true_iff_forall_mem
abbrev ZB:=@List.cons_append
abbrev ZA:=@List.all_eq_true
abbrev Zz:=@List.map_cons
abbrev Zy:=@List.mem_append_left
abbrev Zx:=@List.setIfInBounds_toArray
abbrev Zv:=@List.getElem_map
abbrev Zu:=@Array.length_toList
abbrev Zt:=@List.eq_nil_of_length_eq_zero
abbrev Zq:=@List.append_assoc
abbrev Zp:=@decide_eq_false
abbrev Zn:=@and_true
abbrev Zm:=@Option.getD_some
abbrev Zl:=@List.map_append
abbrev Zk:=@congrArg
abbrev Zj:=@Array.getElem?_setIfInBounds
abbrev Zi:=@Array.getElem?_toList
abbrev Zh:=@List.set_cons_zero
abbrev Zg:=@List.take_append_of_le_length
abbrev Zf:=@List.nil_append
abbrev Ze:=@List.mem_map
abbrev Zd:=@List.mem_singleton
abbrev Zc:=@List.getElem_of_mem
abbrev Zb:=@List.getElem_mem
abbrev Za:=@List.set_cons_succ
abbrev Y9:=@List.take_append_drop
abbrev Y8:=@cond_true
abbrev Y7:=@decide_eq_true
abbrev Y6:=@List.mem_filter
abbrev Y5:=@List.append_nil
abbrev Y4:=@Nat.mul_le_mul_right
abbrev Y3:=@List.mem_append_right
abbrev Y2:=@List.take_left'
abbrev Y1:=@List.length_singleton
abbrev Y0:=@List.mem_of_getElem?
abbrev YZ:=@List.length_drop
abbrev YX:=@Prod.mk.injEq
abbrev YW:=@List.mem_range
abbrev YV:=@List.getElem?_take
abbrev YU:=@if_false
abbrev YT:=@List.mem_of_mem_take
abbrev YS:=@List.getElem_append_right
abbrev YR:=@List.getElem?_append_left
abbrev YQ:=@List.nodup_cons
abbrev YP:=@List.mem_of_mem_drop
abbrev YO:=@List.mem_iff_getElem
abbrev YN:=@Nat.lt_or_ge
abbrev YM:=@List.drop_length
abbrev YL:=@Bool.or_eq_true
abbrev YK:=@if_true
abbrev YJ:=@List.map_nil
abbrev YI:=@List.getElem_append_left
abbrev YH:=@Bool.eq_iff_iff
abbrev YG:=@Nat.add_mul
abbrev YF:=@Decidable.not_not
abbrev YE:=@List.getElem?_drop
abbrev YD:=@Array.getElem?_setIfInBounds_ne
abbrev YC:=@Option.some.inj
abbrev YB:=@List.size_toArray
abbrev YA:=@Bool.not_eq_true'
abbrev Yz:=@Nat.lt_of_lt_of_le
abbrev Yy:=@List.drop_of_length_le
abbrev Yx:=@cond_false
abbrev Yw:=@Nat.blt_eq
abbrev Yv:=@Nat.beq_refl
abbrev Yu:=@List.map_map
abbrev Yt:=@Nat.mul_one
abbrev Ys:=@Nat.min_eq_left
abbrev Yr:=@Nat.add_zero
abbrev Yq:=@List.getElem_cons_zero
abbrev Yp:=@Array.all_toList
abbrev Yo:=@List.pairwise_iff_getElem
abbrev Yn:=@List.map_eq_nil_iff
abbrev Ym:=@Array.ext'
abbrev Yl:=@of_decide_eq_true
abbrev Yk:=@Int.toNat_natCast
abbrev Yj:=@List.not_mem_nil
abbrev Yi:=@List.length_eq_zero_iff
abbrev Yh:=@List.any_eq_true
abbrev Yg:=@true_and
abbrev Yf:=@List.filter_eq_nil_iff
abbrev Ye:=@List.mem_map_of_mem
abbrev Yd:=@List.length_filter_le
abbrev Yc:=@Nat.lt_succ_self
abbrev Yb:=@List.take_length
abbrev Ya:=@List.find?_eq_some_iff_getElem
abbrev X9:=@List.ext_getElem
abbrev X8:=@Bool.not_eq_true
abbrev X7:=@Option.isSome_iff_exists
abbrev X6:=@List.getElem?_map
abbrev X5:=@Array.getElem_mem
abbrev X4:=@List.length_pos_iff
abbrev X3:=@Nat.lt_or_eq_of_le
abbrev X2:=@List.pairwise_cons
abbrev X1:=@List.getElem?_append_right
abbrev X0:=@List.filter_append
abbrev XZ:=@Int.tmod_eq_emod_of_nonneg
abbrev XY:=@List.cons_prefix_cons
abbrev XW:=@Array.getElem?_modify
abbrev XU:=@List.mem_of_find?_eq_some
abbrev XQ:=@and_assoc
abbrev XP:=@List.find?_some
abbrev XN:=@Nat.lt_trichotomy
abbrev XM:=@Nat.le_of_lt_succ
abbrev XL:=@List.flatten_cons
abbrev XK:=@Nat.add_assoc
abbrev XJ:=@List.map_take
abbrev XI:=@Array.any_toList
abbrev XH:=@exists_false
abbrev XG:=@exists_const
abbrev XF:=@List.getElem_cons_drop
abbrev XD:=@List.find?_eq_none
abbrev XC:=@List.drop_eq_nil_of_le
abbrev XB:=@List.length_set
abbrev XA:=@List.getElem?_toArray
abbrev Xz:=@List.nodup_append
abbrev Xy:=@Array.any_eq_true
abbrev Xx:=@Array.getElem?_setIfInBounds_self_of_lt
abbrev Xw:=@List.range_eq_range'
abbrev Xv:=@List.pairwise_append
abbrev Xu:=@Int.tdiv_eq_ediv_of_nonneg
abbrev Xt:=@Bool.not_false
abbrev Xr:=@false_and
abbrev Xq:=@Option.getD_none
abbrev Xp:=@List.filter_cons
abbrev Xo:=@List.take_succ_cons
abbrev Xn:=@List.map_drop
abbrev Xm:=@Bool.or_false
abbrev Xl:=@Bool.eq_false_or_eq_true
abbrev Xk:=@Option.isSome_none
abbrev Xj:=@Nat.eq_or_lt_of_le
abbrev Xi:=@List.getElem_range
abbrev Xh:=@List.append_of_mem
abbrev Xg:=@Nat.min_def
abbrev Xf:=@Nat.mul_comm
abbrev Xe:=@List.pairwise_map
abbrev Xd:=@List.getElem_take
abbrev Xc:=@List.getElem_cons_succ
abbrev Xb:=@Array.size_append
abbrev Xa:=@Nat.ble_eq_true_of_le
abbrev W9:=@List.length_replicate
namespace Go.Sx
inductive AV where
 |v (x:Value)
 |any
 |agg (xs:List AV)
 |aG (xs:List AV)
 |sl (nn:Bool) (ah:Nat) (rows:List (List AV))
 |own (ah t b u c:Nat) (rows:List (List AV))
 |ms (t b o n c:Nat)
 |pc (l:List AV)
 |dD (t:TypeId) (x:AV)
 |lp (t b o:Nat)
 |bJ (t b:Nat)
 |ai (k:IntKind)
 |cl (f:FuncId) (a c:List AV)
 |fl (ah:Nat) (rows:List (List AV))
deriving Inhabited
abbrev Mem:=Nat->Nat->Option Value
def Mem.le(M M':Mem):Prop:=∀b o v,M b o=some v->M' b o=some v
theorem Mem.le.refl(M:Mem):M.le M:=fun _ _ _ h=>h
theorem Mem.le.trans{A B C:Mem}(h:A.le B)(k:B.le C):A.le C:=fun b o v x=>k b o v (h b o v x)
inductive R(M:Mem):AV->Value->Prop
 |v (x:Value):R M (.v x) x
 |any (x:Value):R M .any x
 |agg (xs:List AV) (cs:List Value) (hl:xs.length=cs.length) (h:∀i (h1:i<xs.length) (h2:i<cs.length),R M xs[i] cs[i]):R M (.agg xs) (.agg cs.toArray)
 |aG (xs:List AV) (cs:List Value) (hl:xs.length=cs.length) (h:∀i (h1:i<xs.length) (h2:i<cs.length),R M xs[i] cs[i]):R M (.aG xs) (.tuple cs.toArray)
 |nil (nn:Bool) (ah:Nat) (a:Option Addr) (h:nn=true->a.isSome=true):R M (.sl nn ah []) (.slice a 0 0)
 |sl (nn:Bool) (ah:Nat) (rows:List (List AV)) (b off cap:Nat) (cs:Nat->Value) (bl:∀i (h:i<rows.length),rows[i].length=ah)
   (hM:∀k,k<rows.length*ah->M b (off+k)=some (cs k))
   (hR:∀i (h:i<rows.length) j (h2:j<rows[i].length),R M rows[i][j] (cs (i*ah+j)))
   (hc:rows.length<=cap) (hm:cap<=maxLen):R M (.sl nn ah rows) (.slice (some ⟨b,off,none⟩) rows.length cap)
 |ms (t b o n c:Nat):R M (.ms t b o n c) (.slice (some ⟨b,o,none⟩) n c)
 |own (ah t b u c:Nat) (rows:List (List AV)) (off cap:Nat) (cs:Nat->Value) (bl:∀i (h:i<rows.length),rows[i].length=ah)
   (hM:∀k,k<rows.length*ah->M b (off+k)=some (cs k))
   (hR:∀i (h:i<rows.length) j (h2:j<rows[i].length),R M rows[i][j] (cs (i*ah+j)))
   (hc:rows.length<=cap) (hm:cap<=maxLen) (hu:cap=0\/(off+rows.length*ah=u/\off+cap*ah<=c)) (he:0<ah):R M (.own ah t b u c rows) (.slice (some ⟨b,off,none⟩) rows.length cap)
 |pc (l:List AV) (b off:Nat) (cs:Nat->Value) (hM:∀k,k<l.length->M b (off+k)=some (cs k))
   (hR:∀k (h:k<l.length),R M l[k] (cs k)):R M (.pc l) (.pointer (some ⟨b,off,none⟩))
 |dD (t:TypeId) (x:AV) (v:Value) (h:R M x v):R M (.dD t x) (.iface t v)
 |lp (t b o:Nat):R M (.lp t b o) (.pointer (some ⟨b,o,none⟩))
 |bJ (t b:Nat):R M (.bJ t b) (.map (some b))
 |ai (k:IntKind) (n:Int):R M (.ai k) (.int k n)
 |cl (f:FuncId) (a c:List AV) (va vc:List Value) (hl:a.length=va.length) (fw:c.length=vc.length) (h:∀i (h1:i<a.length) (h2:i<va.length),R M a[i] va[i])
   (h':∀i (h1:i<c.length) (h2:i<vc.length),R M c[i] vc[i]):R M (.cl f a c) (.func (.func f) va.toArray vc.toArray)
 |fl (ah:Nat) (rows:List (List AV)) (b off:Nat) (cs:Nat->Value) (bl:∀i (h:i<rows.length),rows[i].length=ah)
   (hM:∀k,k<rows.length*ah->M b (off+k)=some (cs k))
   (hR:∀i (h:i<rows.length) j (h2:j<rows[i].length),R M rows[i][j] (cs (i*ah+j)))
   (hm:rows.length<=maxLen):R M (.fl ah rows) (.slice (some ⟨b,off,none⟩) rows.length rows.length)
theorem R.mono{M M':Mem}(hM:M.le M'){x:AV}{v:Value}(h:R M x v):R M' x v:=by
 induction h with
 |v x=>exact .v x|any x=>exact .any x|agg xs cs hl _ ih=>exact .agg xs cs hl ih|aG xs cs hl _ ih=>exact .aG xs cs hl ih|nil nn ah a h=>exact .nil nn ah a h|sl nn ah rows b off cap cs bl hm _ hc hx ih=>exact .sl nn ah rows b off cap cs bl (fun k hk=>hM _ _ _ (hm k hk)) ih hc hx|ms t b o n c=>exact .ms t b o n c|own ah t b u c rows off cap cs bl hm _ hc hx hu he ih=>exact .own ah t b u c rows off cap cs bl (fun k hk=>hM _ _ _ (hm k hk)) ih hc hx hu he|pc l b off cs hm _ ih=>exact .pc l b off cs (fun k hk=>hM _ _ _ (hm k hk)) ih|dD t x v _ ih=>exact .dD t x v ih|lp t b o=>exact .lp t b o|bJ t b=>exact .bJ t b|ai k n=>exact .ai k n|cl f a c va vc hl fw _ _ ih gJ=>exact .cl f a c va vc hl fw ih gJ|fl ah rows b off cs bl hm _ hx ih=>exact .fl ah rows b off cs bl (fun k hk=>hM _ _ _ (hm k hk)) ih hx
def RL(M:Mem)(xs:List AV)(cs:List Value):Prop:=xs.length=cs.length/\∀i (h1:i<xs.length) (h2:i<cs.length),R M xs[i] cs[i]
theorem RL.mono{M M':Mem}(hM:M.le M'){xs:List AV}{cs:List Value}(h:RL M xs cs):RL M' xs cs:=⟨h.1,fun i a b=>(h.2 i a b).mono hM⟩
theorem RL.nil{M:Mem}:RL M [] []:=⟨rfl,fun i h=>absurd h (by simp)⟩
theorem RL.cons{M:Mem}{x:AV}{v:Value}{xs:List AV}{cs:List Value}(h:R M x v)(t:RL M xs cs):RL M (x::xs) (v::cs):=by
 refine⟨by simp[t.1],fun i h1 h2=>?_⟩;cases i with
 |zero=>exact h|succ i=>simpa using t.2 i (by grind) (by grind)
theorem RL.aZ{M:Mem}{x:AV}{xs:List AV}{cs:List Value}(h:RL M (x::xs) cs):∃v cs',cs=v::cs'/\R M x v/\RL M xs cs':=by
 obtain⟨hl,hr⟩:=h;cases cs with
 |nil=>grind|cons v cs'=>exact⟨v,cs',rfl,hr 0 (by simp) (by simp),by grind,fun i h1 h2=>hr (i+1) (by grind) (by grind)⟩
theorem RL.qD{M:Mem}{cs:List Value}(h:RL M [] cs):cs=[]:=by have:=h.1;simp at this;exact Zt this.symm
theorem RL.append{M:Mem}{xs ys:List AV}{cs ds:List Value}(h:RL M xs cs)(k:RL M ys ds):RL M (xs++ys) (cs++ds):=by
 induction xs generalizing cs with
 |nil=>obtain rfl:=h.qD;grind
 |cons x xs ih=>obtain⟨v,cs',rfl,a,b⟩:=h.aZ;exact RL.cons a (ih b)
theorem RL.get{M:Mem}{xs:List AV}{cs:List Value}(h:RL M xs cs){i:Nat}{x:AV}(hx:xs[i]? =some x):∃v,cs[i]? =some v/\R M x v:=by obtain⟨hi,rfl⟩:=ZG.1 hx;have h2:i<cs.length:=h.1 ▸ hi;exact⟨cs[i],ZX h2,h.2 i hi h2⟩
theorem RL.drop{M:Mem}{xs:List AV}{cs:List Value}(h:RL M xs cs)(n:Nat):RL M (xs.drop n) (cs.drop n):=by refine⟨by simp[h.1],fun i h1 h2=>?_⟩;simp;exact h.2 _ _ _
theorem RL.take{M:Mem}{xs:List AV}{cs:List Value}(h:RL M xs cs)(n:Nat):RL M (xs.take n) (cs.take n):=by refine⟨by simp[h.1],fun i h1 h2=>?_⟩;simp;exact h.2 _ _ _
theorem RL.set{M:Mem}{xs:List AV}{cs:List Value}(h:RL M xs cs)(n:Nat){x:AV}{v:Value}(hx:R M x v):RL M (xs.set n x) (cs.set n v):=by
 refine⟨by simp[h.1],fun i h1 h2=>?_⟩;simp only[List.getElem_set];split
 .exact hx
 .exact h.2 _ _ _
theorem RL.exact{M:Mem}(cs:List Value):RL M (cs.map .v) cs:=⟨by simp,fun i h1 h2=>by simpa using R.v _⟩
theorem R.qq{M:Mem}{xs:List AV}{v:Value}(h:R M (.agg xs) v):∃cs,v= .agg cs.toArray/\RL M xs cs:=by
 cases h with
 |agg _ cs hl hr=>exact⟨cs,rfl,hl,hr⟩
theorem R.rM{M:Mem}{xs:List AV}{cs:List Value}(h:RL M xs cs):R M (.agg xs) (.agg cs.toArray):=.agg xs cs h.1 h.2
theorem R.R4{M:Mem}{xs:List AV}{v:Value}(h:R M (.aG xs) v):∃cs,v= .tuple cs.toArray/\RL M xs cs:=by
 cases h with
 |aG _ cs hl hr=>exact⟨cs,rfl,hl,hr⟩
theorem R.ue{M:Mem}{xs:List AV}{cs:List Value}(h:RL M xs cs):R M (.aG xs) (.tuple cs.toArray):=.aG xs cs h.1 h.2
theorem R.aC{M:Mem}{x v:Value}(h:R M (.v x) v):v=x:=by cases h;rfl
theorem R.uj{M:Mem}{l:List AV}{v:Value}(h:R M (.pc l) v):∃b off,∃cs:Nat->Value,v= .pointer (some ⟨b,off,none⟩)/\(∀k,k<l.length->M b (off+k)=some (cs k))/\∀k (h:k<l.length),R M l[k] (cs k):=by
 cases h with
 |pc _ b off cs h1 h2=>exact⟨b,off,cs,rfl,h1,h2⟩
structure Rows(M:Mem)(b off ah:Nat)(rows:List (List AV))(cs:Nat->Value):Prop where
 size:∀i (h:i<rows.length),rows[i].length=ah
 mem:∀k,k<rows.length*ah->M b (off+k)=some (cs k)
 rel:∀i (h:i<rows.length) j (h2:j<rows[i].length),R M rows[i][j] (cs (i*ah+j))
theorem R.nT{M:Mem}{nn:Bool}{ah:Nat}{rows:List (List AV)}{v:Value}(h:R M (.sl nn ah rows) v):(∃a:Option Addr,(nn=true->a.isSome=true)/\rows=[]/\v= .slice a 0 0)\/
  ∃b off cap cs,v= .slice (some ⟨b,off,none⟩) rows.length cap/\Rows M b off ah rows cs/\rows.length<=cap/\cap<=maxLen:=by
 cases h with
 |nil _ _ a h=>grind|sl _ _ _ b off cap cs h1 h2 h3 h4 h5=>exact .inr ⟨b,off,cap,cs,rfl,⟨h1,h2,h3⟩,h4,h5⟩
theorem R.nP{M:Mem}{b off cap ah:Nat}{cs:Nat->Value}{rows:List (List AV)}(h:Rows M b off ah rows cs)(h4:rows.length<=cap)(h5:cap<=maxLen)(nn:Bool):R M (.sl nn ah rows) (.slice (some ⟨b,off,none⟩) rows.length cap):=
 .sl nn ah rows b off cap cs h.size h.mem h.rel h4 h5
theorem R.pd{M:Mem}{t b o n c:Nat}{v:Value}(h:R M (.ms t b o n c) v):v= .slice (some ⟨b,o,none⟩) n c:=by cases h;rfl
theorem R.pe{M:Mem}{ah t b u c:Nat}{rows:List (List AV)}{v:Value}(h:R M (.own ah t b u c rows) v):
  ∃off cap cs,v= .slice (some ⟨b,off,none⟩) rows.length cap/\Rows M b off ah rows cs/\rows.length<=cap/\cap<=maxLen/\(cap=0\/(off+rows.length*ah=u/\off+cap*ah<=c))/\0<ah:=by
 cases h with
 |own _ _ _ _ _ _ off cap cs h1 h2 h3 h4 h5 h6 h8=>exact⟨off,cap,cs,rfl,⟨h1,h2,h3⟩,h4,h5,h6,h8⟩
theorem R.rN{M:Mem}{t b u c off cap ah:Nat}{cs:Nat->Value}{rows:List (List AV)}(h:Rows M b off ah rows cs)(h4:rows.length<=cap)(h5:cap<=maxLen)(h6:cap=0\/(off+rows.length*ah=u/\off+cap*ah<=c))(h8:0<ah):
  R M (.own ah t b u c rows) (.slice (some ⟨b,off,none⟩) rows.length cap):=.own ah t b u c rows off cap cs h.size h.mem h.rel h4 h5 h6 h8
theorem R.Si{M:Mem}{ah t b u c:Nat}{rows:List (List AV)}{v:Value}(h:R M (.own ah t b u c rows) v)(nn:Bool):R M (.sl nn ah rows) v:=by obtain⟨off,cap,cs,rfl,hr,h4,h5,_⟩:=h.pe;exact R.nP hr h4 h5 nn
theorem R.R0{M:Mem}{ah:Nat}{rows:List (List AV)}{v:Value}(h:R M (.fl ah rows) v):∃b off cs,v= .slice (some ⟨b,off,none⟩) rows.length rows.length/\Rows M b off ah rows cs/\rows.length<=maxLen:=by
 cases h with
 |fl _ _ b off cs h1 h2 h3 h4=>exact⟨b,off,cs,rfl,⟨h1,h2,h3⟩,h4⟩
theorem R.ahM{M:Mem}{b off ah:Nat}{cs:Nat->Value}{rows:List (List AV)}(h:Rows M b off ah rows cs)(h5:rows.length<=maxLen):R M (.fl ah rows) (.slice (some ⟨b,off,none⟩) rows.length rows.length):=
 .fl ah rows b off cs h.size h.mem h.rel h5
theorem R.HT{M:Mem}{ah:Nat}{rows:List (List AV)}{v:Value}(h:R M (.fl ah rows) v)(nn:Bool):R M (.sl nn ah rows) v:=by obtain⟨b,off,cs,rfl,hr,h5⟩:=h.R0;exact R.nP hr (ZO _) h5 nn
theorem R.ak0{M:Mem}{ah:Nat}{rows:List (List AV)}{v:Value}(h:R M (.sl true ah rows) v):R M (.sl false ah rows) v:=by
 rcases h.nT with⟨a,_,rfl,rfl⟩|⟨b,off,cap,cs,rfl,hr,h4,h5⟩
 .exact .nil _ _ _ (fun h=>nomatch h)
 .exact R.nP hr h4 h5 _
theorem R.pb{M:Mem}{t b o:Nat}{v:Value}(h:R M (.lp t b o) v):v= .pointer (some ⟨b,o,none⟩):=by cases h;rfl
theorem R.qs{M:Mem}{t b:Nat}{v:Value}(h:R M (.bJ t b) v):v= .map (some b):=by cases h;rfl
theorem R.aii{M:Mem}{k:IntKind}{v:Value}(h:R M (.ai k) v):∃n,v= .int k n:=by cases h with|ai _ n=>exact⟨n,rfl⟩
theorem R.Kb{M:Mem}{f:FuncId}{a c:List AV}{v:Value}(h:R M (.cl f a c) v):∃va vc:List Value,v= .func (.func f) va.toArray vc.toArray/\RL M a va/\RL M c vc:=by
 cases h with
 |cl _ _ _ va vc hl fw h h'=>exact⟨va,vc,rfl,⟨hl,h⟩,⟨fw,h'⟩⟩
theorem R.ahL{M:Mem}{f:FuncId}{a c:List AV}{va vc:List Value}(h:RL M a va)(h':RL M c vc):R M (.cl f a c) (.func (.func f) va.toArray vc.toArray):=.cl f a c va vc h.1 h'.1 h.2 h'.2
theorem R.R1{M:Mem}{t:TypeId}{x:AV}{v:Value}(h:R M (.dD t x) v):∃u,v= .iface t u/\R M x u:=by
 cases h with
 |dD _ _ u h=>exact⟨u,rfl,h⟩
theorem ahT{i n ah j:Nat}(hi:i<n)(hj:j<ah):i*ah+j<n*ah:=by have:(i+1)*ah<=n*ah:=Y4 _ hi;rw[Nat.succ_mul]at this;omega
theorem Rows.mono{M M':Mem}(hM:M.le M'){b off ah:Nat}{rows:List (List AV)}{cs:Nat->Value}(h:Rows M b off ah rows cs):Rows M' b off ah rows cs:=
 ⟨h.size,fun k hk=>hM _ _ _ (h.mem k hk),fun i hi j hj=>(h.rel i hi j hj).mono hM⟩
theorem Rows.sub{M:Mem}{b off ah:Nat}{rows:List (List AV)}{cs:Nat->Value}(h:Rows M b off ah rows cs)(lo hi:Nat)(hh:hi<=rows.length)(hl:lo<=hi):
  Rows M b (off+lo*ah) ah ((rows.take hi).drop lo) (fun k=>cs (lo*ah+k)):=by
 have hlen:((rows.take hi).drop lo).length=hi-lo:=by grind
 refine⟨fun i h1=>?_,fun k hk=>?_,fun i h1 j h2=>?_⟩
 .simp;exact h.size _ _
 .rw[hlen]at hk;have hb:lo*ah+k<rows.length*ah:=by
   have h1:(hi-lo)*ah+lo*ah=hi*ah:=by rw[← YG];grind
   have h2:hi*ah<=rows.length*ah:=Y4 _ hh;omega
  rw[XK];exact h.mem _ hb
 .have h3:lo+i<rows.length:=by grind
  have hj:j<rows[lo+i].length:=by grind
  have:=h.rel (lo+i) h3 j hj;grind
theorem Rows.pc{M:Mem}{b off ah:Nat}{rows:List (List AV)}{cs:Nat->Value}(h:Rows M b off ah rows cs)(i:Nat)(hi:i<rows.length):
  R M (.pc (rows.getD i [])) (.pointer (some ⟨b,off+i*ah,none⟩)):=by
 have e:rows.getD i []=rows[i]:=by simp[hi]
 rw[e];refine .pc _ b _ (fun k=>cs (i*ah+k)) (fun k hk=>?_) (fun k hk=>h.rel i hi k hk);rw[h.size i hi]at hk;rw[XK];exact h.mem _ (ahT hi hk)
def AV.cells? :AV->Option (List AV)
 |.v (.agg cs)=>some (cs.toList.map .v)|.v (.tuple _)=>none|.agg xs=>some xs|.any=>none|.aG _=>none|x=>some [x]
def AV.iZ :AV->Option (List AV)
 |.v (.agg cs)=>some (cs.toList.map .v)|.agg xs=>some xs|_=>none
theorem R.Gu{M:Mem}{x:AV}{v:Value}{l:List AV}(h:R M x v)(hl:x.iZ =some l):∃cs,v= .agg cs/\RL M l cs.toList:=by
 cases h with
 |v=>
  cases v with
  |agg cs=>simp[AV.iZ]at hl;subst hl;exact⟨cs,rfl,RL.exact _⟩|_=>simp[AV.iZ]at hl
 |agg xs cs fw hr=>simp[AV.iZ]at hl;subst hl;exact⟨cs.toArray,rfl,fw,hr⟩|_=>simp[AV.iZ]at hl
def AV.one:AV->Bool
 |.v x=>x.oneCell'|.any|.agg _|.aG _=>false|_=>true
theorem R.cells{M:Mem}{x:AV}{v:Value}{l:List AV}(h:R M x v)(hl:x.cells? =some l):RL M l v.cells.toList:=by
 cases h with
 |v=>
  cases v with
  |agg cs=>simp[AV.cells?]at hl;subst hl;exact RL.exact _|tuple _=>simp[AV.cells?]at hl|_=>simp only[AV.cells?,ZV]at hl;subst hl;exact RL.cons (.v _) RL.nil
 |any=>simp[AV.cells?]at hl|agg xs cs fw hr=>simp[AV.cells?]at hl;subst hl;exact⟨fw,hr⟩|aG=>simp[AV.cells?]at hl|nil nn ah a h=>simp only[AV.cells?,ZV]at hl;subst hl;exact RL.cons (.nil nn ah a h) RL.nil|sl nn ah rows b off cap cs a1 a2 a3 a4 a5=>simp only[AV.cells?,ZV]at hl;subst hl;exact RL.cons (.sl nn ah rows b off cap cs a1 a2 a3 a4 a5) RL.nil|ms t b o n c=>simp only[AV.cells?,ZV]at hl;subst hl;exact RL.cons (.ms t b o n c) RL.nil|own ah t b u c rows off cap cs a1 a2 a3 a4 a5 a6 a8=>simp only[AV.cells?,ZV]at hl;subst hl;exact RL.cons (.own ah t b u c rows off cap cs a1 a2 a3 a4 a5 a6 a8) RL.nil|pc l b off cs a1 a2=>simp only[AV.cells?,ZV]at hl;subst hl;exact RL.cons (.pc l b off cs a1 a2) RL.nil|dD t x v a=>simp only[AV.cells?,ZV]at hl;subst hl;exact RL.cons (.dD t x v a) RL.nil|lp t b o=>simp only[AV.cells?,ZV]at hl;subst hl;exact RL.cons (.lp t b o) RL.nil|bJ t b=>simp only[AV.cells?,ZV]at hl;subst hl;exact RL.cons (.bJ t b) RL.nil|ai k n=>simp only[AV.cells?,ZV]at hl;subst hl;exact RL.cons (.ai k n) RL.nil|cl f a c va vc a1 a2 a3 a4=>simp only[AV.cells?,ZV]at hl;subst hl;exact RL.cons (.cl f a c va vc a1 a2 a3 a4) RL.nil|fl ah rows b off cs a1 a2 a3 a4=>simp only[AV.cells?,ZV]at hl;subst hl;exact RL.cons (.fl ah rows b off cs a1 a2 a3 a4) RL.nil
theorem R.one{M:Mem}{x:AV}{v:Value}(h:R M x v)(hl:x.one=true):v.oneCell'=true:=by cases h<;>simp_all [AV.one,Value.oneCell']
inductive aE where
 |cells (l:List AV)
 |tail (u c:Nat)
 |map (es:List (Value×Nat×AV)) (k:Nat)
deriving Inhabited
abbrev ag:=List (Nat×AV)
abbrev Store:=List (Nat×Nat×aE)
def lk:ag->Nat->AV
 |[],_=>.any|(i,x)::r,j=>bif Nat.beq i j then x else lk r j
def aV:Store->Nat->Option (Nat×aE)
 |[],_=>none|(i,b,x)::r,j=>bif Nat.beq i j then some (b,x)else aV r j
def BlkOK(M:Mem)(w:World)(b:Nat):aE->Prop
 |.cells l=>(∀o,M b o=none)/\∃cs t,w.heap[b]? =some (.cells cs t (0,0))/\RL M l cs.toList|.tail u c=>(∀o,u<=o->M b o=none)/\∃cs t,w.heap[b]? =some (.cells cs t (0,0))/\cs.size=c/\u<=c|.map es k=>(∀o,M b o=none)/\∃l:List MapEntry,w.heap[b]? =some (.map l.toArray k)/\l.map (fun e=>(e.key,e.born))=es.map (fun e=>(e.1,e.2.1))/\RL M (es.map (·.2.2)) (l.map (·.val))
class Glob (P:Program) where
 av:Nat->Option (List AV)
 gw:World->Prop
 df:List Deferred:=[]
instance (priority:=low) Glob.empty (P:Program):Glob P:=⟨fun _=>none,fun _=>True,[]⟩
class ij (P:Program) [Glob P]:Prop where
 h:Glob.df P=[]
instance (priority:=low) ij.empty (P:Program): @ij P (Glob.empty P):=@ij.mk P (Glob.empty P) rfl
structure Base extends World where
 bm:Mem
instance:Coe Base World:=⟨Base.toWorld⟩
structure Inv(P:Program)[Glob P](M:Mem)(w0:Base)(σ:Store)(w:World):Prop where
 os:w.os=w0.os
 tape:w.tape=w0.tape
 output:w.output=w0.output
 size:w0.heap.size<=w.heap.size
 old:∀k,k<w0.heap.size->w.heap[k]? =w0.heap[k]?
 bZ:∀b o v,M b o=some v->w.cell? ⟨b,o,none⟩=some v
 st:∀e∈σ,w0.heap.size<=e.2.1/\BlkOK M w e.2.1 e.2.2
 nd:(σ.map (·.2.1)).Nodup
 gl:∀g l,Glob.av P g=some l->R M (.pc l) (.pointer (some ⟨g,0,none⟩))
 gw:Glob.gw P w0
 bm:∀b o v,M b o=some v->b<w0.heap.size->w0.bm b o=some v
def bS(M:Mem)(rg:ag)(a:Act):Prop:=∀i,R M (lk rg i) (a.tmps.getD i undef)
theorem bS.mono{M M':Mem}(hM:M.le M'){rg:ag}{a:Act}(h:bS M rg a):bS M' rg a:=fun i=>(h i).mono hM
def ev(rg:ag):Operand->AV
 |.tmp t=>lk rg t|.const v=>.v v|.global g=>.v (.pointer (some ⟨g,0,none⟩))|.func f=>.v (.func (.func f) #[] #[])
theorem bS.ev{M:Mem}{rg:ag}{a:Act}(h:bS M rg a)(x:Operand):R M (ev rg x) (a.eval x):=by
 cases x with
 |tmp t=>exact h t|const v=>exact .v v|global g=>exact .v _|func f=>exact .v _
def bB(d:Option Nat)(x:AV)(rg:ag):ag:=match d with|some d=>(d,x)::rg|none=>rg
theorem bS.put{M:Mem}{rg:ag}{a:Act}(h:bS M rg a)(d:Option Nat){x:AV}{v:Value}(hd:∀t,d=some t->t<a.tmps.size)(hx:R M x v):bS M (bB d x rg) (a.put d v):=by
 cases d with
 |none=>exact h|some d=>
  intro i;simp only[bB,lk,Act.put];by_cases e:d=i
  .simp_all
  .have hb:Nat.beq d i=false:=by rw[← X8,Nat.beq_eq];grind
   have:(a.tmps.setIfInBounds d v).getD i undef=a.tmps.getD i undef:=by simp_all
   rw[hb,this];exact h i
theorem Act.size_put(a:Act)(d:Option Nat)(v:Value):(a.put d v).tmps.size=a.tmps.size:=by cases d<;>simp[Act.put]
theorem Act.zD(a:Act)(d:Option Nat)(v:Value):(a.put d v).defers=a.defers:=by cases d<;>simp[Act.put]
def eP:List Nat->ag->ag
 |[],_=>[]
 |i::l,rg=>(i,lk rg i)::eP l rg
theorem bS.eP{M:Mem}{rg:ag}{a:Act}(h:bS M rg a)(l:List Nat):bS M (eP l rg) a:=by
 induction l with
 |nil=>exact fun i=>.any _
 |cons t l ih=>
  intro i;simp only[Sx.eP,lk];cases hb:Nat.beq t i with
  |true=>rw[Z0 hb];exact h i|false=>exact ih i
theorem Inv.drew{P:Program}[Glob P]{M:Mem}{w0:Base}{σ:Store}{w:World}(h:Inv P M w0 σ w)(n:Nat):Inv P M w0 σ {w with drawn:=n}:=
 ⟨h.os,h.tape,h.output,h.size,h.old,h.bZ,h.st,h.nd,h.gl,h.gw,h.bm⟩
theorem BlkOK.lt{M:Mem}{w:World}{b:Nat}{x:aE}(h:BlkOK M w b x):b<w.heap.size:=by
 cases x with
 |cells l=>obtain⟨_,cs,t,hh,_⟩:=h;grind
 |tail u c=>obtain⟨_,cs,t,hh,_⟩:=h;grind
 |map es k=>obtain⟨_,l,hh,_⟩:=h;grind
theorem Inv.ub{P:Program}[Glob P]{M:Mem}{w0:Base}{σ:Store}{w:World}(h:Inv P M w0 σ w){e:Nat×Nat×aE}(he:e∈σ):e.2.1<w.heap.size:=(h.st e he).2.lt
theorem Inv.fresh{P:Program}[Glob P]{M:Mem}{w0:Base}{σ:Store}{w:World}(h:Inv P M w0 σ w):w.heap.size∉σ.map (·.2.1):=by intro hm;obtain⟨e,he,h2⟩:=Ze.1 hm;have:=h.ub he;omega
theorem ua:∀{σ:Store} {t b:Nat} {x:aE},aV σ t=some (b,x)->(t,b,x)∈σ
 |[],t,b,x,h=>by cases h|(i,b',x')::r,t,b,x,h=>by
  simp only[aV]at h;cases hb:Nat.beq i t with
  |true=>simp_all|false=>rw[hb]at h;exact ZN _ (ua h)
def du:Store->Nat->Nat->aE->Store
 |[],_,_,_=>[]
 |(i,b',x')::r,t,b,x=>bif Nat.beq i t then(t,b,x)::r else(i,b',x')::du r t b x
theorem wO:∀{σ:Store} {t b:Nat} {x:aE},aV σ t=some (b,x)->∃pre post,σ=pre++(t,b,x)::post/\∀b' x',du σ t b' x'=pre++(t,b',x')::post
 |[],t,b,x,h=>by cases h|(i,b0,x0)::r,t,b,x,h=>by
  simp only[aV]at h;cases hb:Nat.beq i t with
  |true=>refine⟨[],r,by simp_all,fun b' x'=>by simp only[du,hb,Y8,Zf]⟩|false=>rw[hb]at h;obtain⟨pre,post,h1,h2⟩:=wO h;exact⟨(i,b0,x0)::pre,post,by grind,fun b' x'=>by simp only[du,hb,Yx,h2,ZB]⟩
theorem Inv.Dd{P:Program}[Glob P]{M:Mem}{w0:Base}{σ:Store}{w:World}(h:Inv P M w0 σ w)(o:Nat):M w.heap.size o=none:=by
 cases e:M w.heap.size o with
 |none=>rfl|some x=>have:=World.block_lt_of_cell? _ _ (h.bZ _ _ _ e);grind
theorem IQ(w:World)(o:Obj)(k:Nat)(h:k<w.heap.size):(w.alloc o).heap[k]? =w.heap[k]? :=by show(w.heap.push o)[k]? =_;grind
theorem heap_alloc_new(w:World)(o:Obj):(w.alloc o).heap[w.heap.size]? =some o:=by show(w.heap.push o)[w.heap.size]? =_;rw[Array.getElem?_push,Z3 rfl]
theorem BlkOK.heap{M:Mem}{w w':World}{b:Nat}{x:aE}(h:BlkOK M w b x)(e:w'.heap[b]? =w.heap[b]?):BlkOK M w' b x:=by
 cases x with
 |cells l=>obtain⟨a,cs,t,hh,r⟩:=h;exact⟨a,cs,t,e.trans hh,r⟩
 |tail u c=>obtain⟨a,cs,t,hh,r⟩:=h;exact⟨a,cs,t,e.trans hh,r⟩
 |map es k=>obtain⟨a,l,hh,r⟩:=h;exact⟨a,l,e.trans hh,r⟩
theorem Inv.alloc{P:Program}[Glob P]{M:Mem}{w0:Base}{σ:Store}{w:World}(h:Inv P M w0 σ w)(o:Obj):Inv P M w0 σ (w.alloc o):=by
 refine⟨h.os,h.tape,h.output,by simp;have:=h.size;omega,fun k hk=>?_,fun b o' v hv=>?_,fun e he=>?_,h.nd,h.gl,h.gw,h.bm⟩
 .rw[IQ _ _ _ (Yz hk h.size)];exact h.old k hk
 .have:=h.bZ b o' v hv;rw[World.cell?_alloc_lt _ _ _ (World.block_lt_of_cell? _ _ this)];grind
 .exact⟨(h.st e he).1,(h.st e he).2.heap (IQ _ _ _ (h.ub he))⟩
theorem Inv.box{P:Program}[Glob P]{M:Mem}{w0:Base}{σ:Store}{w:World}(h:Inv P M w0 σ w){cs:List Value}{l:List AV}(t:TypeId)(hl:RL M l cs)(tag:Nat):
  Inv P M w0 ((tag,w.heap.size,.cells l)::σ) (w.alloc (.cells cs.toArray t)):=by
 have h':=h.alloc (.cells cs.toArray t);refine⟨h'.os,h'.tape,h'.output,h'.size,h'.old,h'.bZ,fun e he=>?_,?_,h'.gl,h'.gw,h'.bm⟩
 .rcases ZR.1 he with rfl|he
  .exact⟨h.size,h.Dd,cs.toArray,t,heap_alloc_new _ _,by grind⟩
  .exact h'.st e he
 .simp only[Zz,YQ];exact⟨h.fresh,h.nd⟩
end Go.Sx
namespace Go.Sx
open Go.RowKit
inductive ik where
 |ret (x:AV)
 |ke (ch:List PanicEntry)
def jV(M:Mem):ik->Ending->Prop
 |.ret x,.returned v=>R M x v|.ke ch,.panicked GY=>GY=ch|_,_=>False
def Spec(P:Program)[Glob P](f:FuncId)(as:List AV)(σ:Store)(Q:ik->Store->Prop):Prop:=
 ∀(M:Mem) (w0:Base) (w:World) (cs:List Value),Inv P M w0 σ w->RL M as cs->
  Calls P f cs.toArray w fun e w'=>∃M' r af,M.le M'/\Inv P M' w0 af w'/\jV M' r e/\Q r af
structure Pure(P:Program)[Glob P](f:FuncId)(as:List AV)(r:AV):Prop where
 sp:∀σ,Spec P f as σ fun r' af=>r'= .ret r/\af=σ
def pA(P:Program)[Glob P](f:FuncId)(as:List AV)(σ:Store)(K:AV->Store->Prop)(E:List PanicEntry->Store->Prop):Prop:=
 ∃Q:ik->Store->Prop,Spec P f as σ Q/\(∀x af,Q (.ret x) af->K x af)/\(∀ch af,Q (.ke ch) af->E ch af)
theorem callP_congr{P:Program}[Glob P]{f:FuncId}{as as':List AV}{σ:Store}{K:AV->Store->Prop}{E:List PanicEntry->Store->Prop}(h:as=as'):pA P f as σ K E=pA P f as' σ K E:=by rw[h]
theorem xg{P:Program}[Glob P]{f:FuncId}{as:List AV}{σ:Store}{K:AV->Store->Prop}{E:List PanicEntry->Store->Prop}{r:AV}(h:Pure P f as r)(k:K r σ):pA P f as σ K E:=
 ⟨_,h.sp σ,fun _ _ ⟨e,e'⟩=>by grind,fun _ _ ⟨e,_⟩=>by cases e⟩
def im(P:Program)[Glob P](f:FuncId):Bool:=
 match P.funcs[f]? with
 |some fn=>fn.name != "runtime.NumGoroutine" && fn.body.isSome|none=>false
inductive sO where
 |int|str|bool
deriving DecidableEq
inductive wV where
 |bool|slice|map|func|ptr
deriving DecidableEq
inductive TI where
 |str
 |int (k:IntKind)
 |sl (e:TypeId)
 |mp (k v:TypeId)
 |sz (n:Nat)
 |other
deriving DecidableEq
def jP:Option TypeDesc->TI
 |some .string=>.str|some (.int k)=>.int k|some (.slice e)=>.sl e|some (.map k v)=>.mp k v|_=>.other
def zH(P:Program)(t:TypeId):TI:=match P.underlying t with
 |some (.slice e)=>jP (P.underlying e)|_=>.other
def A6(P:Program)(t:TypeId):TI:=match P.underlying t with
 |some (.map k _)=>jP (P.underlying k)|_=>.other
def BI(P:Program)(t:TypeId):TI:=match P.underlying t with
 |some (.slice e)=>match P.info? e with
  |some i=>.sz i.size|none=>.other
 |_=>.other
def ey(P:Program):Op->List TI
 |.convert s d _=>[jP (P.underlying s),zH P s,jP (P.underlying d),zH P d]
 |.slice t _ _ _ (some _)=>[jP (P.underlying t),BI P t]
 |.slice t _ _ _ none=>[jP (P.underlying t)]
 |.insert t _ _ _|.mapUpdate t _ _ _|.mapEntry t _ _|.entryStore t _ _ _|.lookup t _ _ _=>[jP (P.underlying t),A6 P t]
 |.makeSlice t _ _=>[jP (P.underlying t),zH P t]
 |_=>[]
theorem Fu{d:Option TypeDesc}(h:jP d= .str):d=some .string:=by unfold jP at h;split at h<;>first|rfl|cases h
theorem Li{d:Option TypeDesc}{k:IntKind}(h:jP d= .int k):d=some (.int k):=by unfold jP at h;split at h<;>first|(cases h;rfl)|cases h
theorem wM{d:Option TypeDesc}{e:TypeId}(h:jP d= .sl e):d=some (.slice e):=by unfold jP at h;split at h<;>first|(cases h;rfl)|cases h
theorem uA{d:Option TypeDesc}{k v:TypeId}(h:jP d= .mp k v):d=some (.map k v):=by unfold jP at h;split at h<;>first|(cases h;rfl)|cases h
inductive aB where
 |mv (x:Operand)
 |pick (c a b:Operand)
 |box (t:TypeId) (x:Operand)
 |alloc (t:TypeId) (z:Value)
 |build (z:List Value) (parts:List (Nat×Nat×Operand))
 |TO (t:TypeId) (ah:Nat) (parts:List Operand)
 |load (agg:Bool) (n:Nat) (x:Operand)
 |store (n:Nat) (x v:Operand)
 |ng (x:Operand)
 |bin (op:BinOp) (x y:Operand)
 |jt (neg:Bool) (k:wV) (x y:Operand)
 |eqs (neg:Bool) (ks:List sO) (x y:Operand)
 |un (op:UnOp) (x:Operand)
 |mD (k:IntKind) (x:Operand)
 |nw (x:Operand)
 |nR (t:TypeId) (x:Operand)
 |nQ (fn:Fn) (first captured:List Operand)
 |slice (ah:Nat) (x:Operand) (lo hi:Option Operand)
 |cG (off:Nat) (x:Operand)
 |field (agg:Bool) (off n:Nat) (x:Operand)
 |fh (ah:Nat) (x i:Operand)
 |mV (len ah:Nat) (x i:Operand)
 |idxs (x i:Operand)
 |extract (x:Operand) (i:Nat)
 |call (f:FuncId) (args:List Operand)
 |fZ (f:Operand) (args:List Operand)
 |len (str:Bool) (x:Operand)
 |append (t:TypeId) (ah bytes:Nat) (z:List Value) (x y:Operand)
 |max2 (x y:Operand)
 |min2 (x y:Operand)
 |cL (op:Op) (ty:TypeId) (ti:List TI) (args:List Operand)
 |exts (op:Op) (ty:TypeId) (ti:List TI) (args:List Operand)
 |panic (x:Operand)
def over{q:Type}(l:List q)(o:Nat)(l':List q):List q:=l.take o++l'++l.drop (o+l'.length)
theorem Bm{q:Type}(l:List q)(o:Nat)(l':List q)(h:o+l'.length<=l.length):(over l o l').length=l.length:=by simp[over];omega
theorem RL.over{M:Mem}{xs xs':List AV}{cs cs':List Value}(h:RL M xs cs)(k:RL M xs' cs')(o:Nat):RL M (over xs o xs') (over cs o cs'):=by unfold Sx.over;rw[k.1];exact RL.append (RL.append (h.take o) k) (h.drop _)
def mo(op:BinOp):Value->Value->(Value->Prop)->Prop
 |.int k a,.int k' b,K=>
  match op with
  |.add=>k=k'/\K (.int k (k.wrap (a+b)))|.sub=>k=k'/\K (.int k (k.wrap (a-b)))|.mul=>k=k'/\K (.int k (k.wrap (a*b)))|.quo=>k=k'/\b≠0/\K (.int k (k.wrap (a.tdiv b)))|.rem=>k=k'/\b≠0/\K (.int k (a.tmod b))|.eql=>k=k'/\K (.bool (decide (a=b)))|.neq=>k=k'/\K (.bool (!decide (a=b)))|.lss=>k=k'/\K (.bool (decide (a<b)))|.leq=>k=k'/\K (.bool (decide (a<=b)))|.gtr=>k=k'/\K (.bool (decide (b<a)))|.geq=>k=k'/\K (.bool (decide (b<=a)))|.and=>k=k'/\K (.int k (bits .and k a b))|.or=>k=k'/\K (.int k (bits .or k a b))|.xor=>k=k'/\K (.int k (bits .xor k a b))|.andNot=>k=k'/\K (.int k (bits .andNot k a b))|.shl=>0<=b/\b<=k.bits/\K (.int k (k.wrap (a*2^b.toNat)))|.shr=>0<=b/\b<=k.bits/\K (.int k (a / 2^b.toNat))
 |.string a,.string b,K=>
  match op with
  |.add=>a.size+b.size<=9223372036854775807/\K (.string (a++b))|.eql=>K (.bool (decide (a=b)))|.neq=>K (.bool (!decide (a=b)))|.lss=>K (.bool (Op.bytesLess a.toList b.toList))|.leq=>K (.bool (Op.bytesLess a.toList b.toList||decide (a=b)))|.gtr=>K (.bool (!(Op.bytesLess a.toList b.toList||decide (a=b))))|.geq=>K (.bool (!Op.bytesLess a.toList b.toList))|_=>False
 |_,_,_=>False
def td:wV->AV->AV->Option Bool
 |.bool,.v (.bool a),.v (.bool b)=>some (a == b)|.slice,.sl true _ _,.v (.slice none _ _)=>some false|.slice,.v (.slice none _ _),.sl true _ _=>some false|.slice,.own ..,.v (.slice none _ _)=>some false|.slice,.v (.slice none _ _),.own .. =>some false|.slice,.ms ..,.v (.slice none _ _)=>some false|.slice,.v (.slice none _ _),.ms .. =>some false|.slice,.v (.slice (some _) _ _),.v (.slice none _ _)=>some false|.slice,.v (.slice none _ _),.v (.slice (some _) _ _)=>some false|.slice,.v (.slice none _ _),.v (.slice none _ _)=>some true|.map,.v (.map (some _)),.v (.map none)=>some false|.map,.v (.map none),.v (.map (some _))=>some false|.map,.v (.map none),.v (.map none)=>some true|.func,.v (.func ..),.v .nilFunc=>some false|.func,.v .nilFunc,.v (.func ..)=>some false|.func,.v .nilFunc,.v .nilFunc=>some true|.ptr,.lp ..,.v (.pointer none)=>some false|.ptr,.v (.pointer none),.lp .. =>some false|.ptr,.v (.pointer (some _)),.v (.pointer none)=>some false|.ptr,.v (.pointer none),.v (.pointer (some _))=>some false|.ptr,.v (.pointer none),.v (.pointer none)=>some true|_,_,_=>none
def o7:sO->AV->AV->Option Bool
 |.int,.v (.int k a),.v (.int k' b)=>if k=k' then some (decide (a=b))else none|.str,.v (.string a),.v (.string b)=>some (decide (a=b))|.bool,.v (.bool a),.v (.bool b)=>some (a == b)|_,_,_=>none
def nz:List sO->List AV->List AV->Option Bool
 |[],[],[]=>some true|k::ks,x::xs,y::ys=>match o7 k x y with
  |some b=>(nz ks xs ys).map (b && ·)|none=>none
 |_,_,_=>none
def FD:UnOp->Value->Option Value
 |.neg,.int k n=>some (.int k (k.wrap (0-n)))|.not,.bool b=>some (.bool !b)|_,_=>none
def aL(rg:ag):List Operand->List AV
 |[]=>[]
 |x::l=>ev rg x::aL rg l
def iq:List AV->Option (List Value)
 |[]=>some []|.v x::l=>(iq l).map (x::·)|_::_=>none
def bR:List AV->Option (List Value)
 |[]=>some []|.v x::l=>(bR l).map (x::·)|.lp _ b o::l=>(bR l).map (.pointer (some ⟨b,o,none⟩)::·)|.agg xs::l=>match iq xs with
  |some cs=>(bR l).map (.agg cs.toArray::·)|none=>none
 |_::_=>none
def pU:List AV->List (Nat×Nat×AV)->Option (List AV)
 |c,[]=>some c|c,(off,n,x)::rest=>match x.cells? with
  |some l=>if l.length=n/\off+n<=c.length then pU (over c off l) rest else none|none=>none
def mG(rg:ag):List (Nat×Nat×Operand)->List (Nat×Nat×AV)
 |[]=>[]
 |(o,n,x)::l=>(o,n,ev rg x)::mG rg l
def rowsOf(ah:Nat):List AV->Option (List (List AV))
 |[]=>some []|x::l=>match x.cells? with
  |some r=>if r.length=ah then(rowsOf ah l).map (r::·)else none|none=>none
def iS :Option AV->Option (Option Int)
 |none=>some none|some (.v (.int _ i))=>some (some i)|_=>none
def dB(b:UInt8):List AV:=[.v (.int .u8 b.toNat)]
def dH(ah:Nat):AV->Option (List (List AV))
 |.sl _ e rows=>if e=ah then some rows else none|.own e _ _ _ _ rows=>if e=ah then some rows else none|.v (.slice none 0 0)=>some []|.v (.string s)=>if ah=1 then some (s.data.toList.map dB)else none|_=>none
def uc(lt:Bool):Value->Value->Option Value
 |.int k x,.int k' y=>if k=k' then some (.int k (if lt then(if y<x then y else x)else(if y>x then y else x)))else none|_,_=>none
def Vb:Next->Value->Prop
 |.value v,u=>u=v|.skip,u=>u=undef|_,_=>False
def fH(P:Program)[Glob P](op:Op)(ty:TypeId)(ti:List TI)(args:List Operand)(as:List AV)(σ:Store)(Q:AV->Store->Prop):Prop:=
 ey P op=ti->∀(M:Mem) (w0:Base) (w:World) (p:Operand->Value),Inv P M w0 σ w->RL M as (args.map p)->
  ∃ nx w' M' x v af,(execOp p ⟨none,op,ty, "",#[],none⟩).run P w= .ok nx w'∧Vb nx v∧M.le M'∧Inv P M' w0 af w'∧R M' x v∧Q x af
structure jU(P:Program)[Glob P](op:Op)(ty:TypeId)(ti:List TI)(args:List Operand)(as:List AV)(r:AV):Prop where
 sp:∀σ,fH P op ty ti args as σ fun x af=>x=r/\af=σ
theorem fH.mono{P:Program}[Glob P]{op:Op}{ty:TypeId}{ti:List TI}{args:List Operand}{as:List AV}{σ:Store}{Q Q':AV->Store->Prop}(h:fH P op ty ti args as σ Q)(k:∀x af,Q x af->Q' x af):fH P op ty ti args as σ Q':=
 fun bu M w0 w p hI hR=>let⟨nx,w',M',x,v,af,h1,h2,h3,h4,h5,h6⟩:=h bu M w0 w p hI hR;⟨nx,w',M',x,v,af,h1,h2,h3,h4,h5,k _ _ h6⟩
def ak(P:Program)[Glob P](cfg:Nat->Nat)(d:Option Nat)(rg:ag)(σ:Store)(K:AV->Store->Prop)(E:List PanicEntry->Store->Prop):aB->Prop
 |.mv x=>K (ev rg x) σ|.pick c a b=>match ev rg c with
  |.v (.bool t)=>K (if t then ev rg a else ev rg b) σ|_=>False
 |.box _ x=>match(ev rg x).cells? with
  |some l=>∀b,K (.lp (d.getD 0) b 0) ((d.getD 0,b,.cells l)::σ)|none=>False
 |.alloc _ z=>∀b,K (.lp (d.getD 0) b 0) ((d.getD 0,b,.cells (z.cells.toList.map .v))::σ)|.build z parts=>match pU (z.map .v) (mG rg parts)with
  |some l=>K (.agg l) σ|none=>False
 | .TO _ ah parts=>match rowsOf ah (aL rg parts)with
  |some rows=>rows.length<=1000000/\match cfg (d.getD 0)with
   |0=>K (.sl true ah rows) σ|1=>0<ah/\∀b,K (.own ah (d.getD 0) b (rows.length*ah) (rows.length*ah) rows) ((d.getD 0,b,.tail (rows.length*ah) (rows.length*ah))::σ)|3=>K (.fl ah rows) σ|_=>∀b,K (.ms (d.getD 0) b 0 rows.length rows.length) ((d.getD 0,b,.cells rows.flatten)::σ)
  |none=>False
 |.load agg n x=>match ev rg x with
  |.lp t b o=>match aV σ t with
   |some (b',.cells l)=>b=b'/\if agg then o+n<=l.length/\K (.agg ((l.drop o).take n)) σ else match l[o]? with
    |some y=>K y σ|none=>False
   |_=>False
  |.pc l=>if agg then n<=l.length/\K (.agg (l.take n)) σ else match l[0]? with
    |some y=>K y σ|none=>False
  |.v (.pointer (some ⟨g,0,none⟩))=>match Glob.av P g with
   |some l=>if agg then n<=l.length/\K (.agg (l.take n)) σ else match l[0]? with
    |some y=>K y σ|none=>False
   |none=>False
  |_=>False
 |.store n x y=>match ev rg x,(ev rg y).cells? with
  |.lp t b o,some l'=>match aV σ t with
   |some (b',.cells l)=>b=b'/\l'.length=n/\l'.all AV.one=true/\o+n<=l.length/\K (.v undef) (du σ t b (.cells (over l o l')))|_=>False
  |_,_=>False
 |.ng x=>match ev rg x with
  |.v (.pointer (some a))=>K (.v (.pointer (some a))) σ|.lp t b o=>K (.lp t b o) σ|.pc l=>K (.pc l) σ|.v (.func (.func f) a c)=>K (.v (.func (.func f) a c)) σ|.cl f a c=>K (.cl f a c) σ|_=>False
 |.bin op x y=>match ev rg x,ev rg y with
  |.v a,.v b=>mo op a b fun r=>K (.v r) σ
  |_,_=>False
 |.jt neg k x y=>match td k (ev rg x) (ev rg y)with
  |some b=>K (.v (.bool (b ^^ neg))) σ|none=>False
 |.eqs neg ks x y=>match(ev rg x).iZ,(ev rg y).iZ with
  |some xs,some ys=>match nz ks xs ys with
   |some b=>K (.v (.bool (b ^^ neg))) σ|none=>False
  |_,_=>False
 |.un op x=>match ev rg x with
  |.v a=>match FD op a with
   |some r=>K (.v r) σ|none=>False
  |_=>False
 |.mD k x=>match ev rg x with
  |.v (.int _ n)=>K (.v (.int k (k.wrap n))) σ|_=>False
 |.nw x=>match ev rg x with
  |.v (.string s)=>K (.v (.string s)) σ|_=>False
 |.nR t x=>K (.dD t (ev rg x)) σ|.nQ fn first captured=>match bR (aL rg first),bR (aL rg captured)with
  |some a,some c=>K (.v (.func fn a.toArray c.toArray)) σ|_,_=>match fn with
   |.func f=>K (.cl f (aL rg first) (aL rg captured)) σ|_=>False
 |.slice ah x lo hi=>match iS (lo.map (ev rg)),iS (hi.map (ev rg))with
  |some lo,some hi=>match ev rg x with
   |.sl nn e rows=>e=ah/\0<=lo.getD 0/\lo.getD 0<=hi.getD rows.length/\hi.getD rows.length<=rows.length/\K (.sl nn ah ((rows.take (hi.getD rows.length).toNat).drop (lo.getD 0).toNat)) σ|.own e tg b u c rows=>e=ah/\0<=lo.getD 0/\lo.getD 0<=hi.getD rows.length/\hi.getD rows.length<=rows.length/\
     K (if hi.isNone then .own ah tg b u c (rows.drop (lo.getD 0).toNat)else .sl true ah ((rows.take (hi.getD rows.length).toNat).drop (lo.getD 0).toNat)) σ
   |.v (.slice none 0 0)=>lo.getD 0=0/\hi.getD 0=0/\K (.v (.slice none 0 0)) σ|_=>False
  |_,_=>False
 |.cG off x=>match ev rg x with
  |.lp t b o=>K (.lp t b (o+off)) σ|.pc l=>K (.pc (l.drop off)) σ|_=>False
 |.field agg off n x=>match(ev rg x).iZ with
  |some l=>off+n<=l.length/\if agg then K (.agg ((l.drop off).take n)) σ else match l[off]? with
   |some y=>K y σ|none=>False
  |none=>False
 |.fh ah x i=>match ev rg i with
  |.v (.int _ i)=>match ev rg x with
   |.sl _ e rows=>e=ah/\0<=i/\i<rows.length/\K (.pc (rows.getD i.toNat [])) σ|.own e _ _ _ _ rows=>e=ah/\0<=i/\i<rows.length/\K (.pc (rows.getD i.toNat [])) σ|.ms t b o n _=>0<=i/\i<n/\K (.lp t b (o+i.toNat*ah)) σ|_=>False
  |_=>False
 |.mV n ah x i=>match ev rg i with
  |.v (.int _ i)=>match ev rg x with
   |.lp t b o=>0<=i/\i<n/\K (.lp t b (o+i.toNat*ah)) σ|.pc l=>0<=i/\i<n/\K (.pc (l.drop (i.toNat*ah))) σ|.v (.pointer (some ⟨g,o,none⟩))=>∃l,Glob.av P g=some l/\o=0/\0<=i/\i<n/\K (.pc (l.drop (i.toNat*ah))) σ|_=>False
  |_=>False
 |.idxs x i=>match ev rg i,ev rg x with
  |.v (.int _ i),.v (.string s)=>∃h:0<=i/\i<s.size,K (.v (.int .u8 (s[i.toNat]'(by omega)).toNat)) σ|_,_=>False
 |.extract x i=>match ev rg x with
  |.aG xs=>match xs[i]? with
   |some y=>K y σ|none=>False
  |.v (.tuple vs)=>match vs[i]? with
   |some y=>K (.v y) σ|none=>False
  |_=>False
 |.call f args=>pA P f (aL rg args) σ K E|.fZ f args=>match ev rg f with
  |.v (.func (.func f) a c)=>im P f=true/\pA P f (a.toList.map .v++aL rg args++c.toList.map .v) σ K E|.cl f a c=>im P f=true/\pA P f (a++aL rg args++c) σ K E|_=>False
 |.len true x=>match ev rg x with
  |.v (.string s)=>K (.v (.int .i64 s.size)) σ|_=>False
 |.len false x=>match ev rg x with
  |.v (.slice _ n _)=>K (.v (.int .i64 n)) σ|.ms _ _ _ n _=>K (.v (.int .i64 n)) σ|.sl _ _ rows=>(rows.length<=maxLen->K (.v (.int .i64 rows.length)) σ)
  |.own _ _ _ _ _ rows=>(rows.length<=maxLen->K (.v (.int .i64 rows.length)) σ)
  |_=>False
 |.append _ ah bytes _ x y=>match ev rg x,dH ah (ev rg y)with
  |.v (.slice none 0 0),some rows'=>rows'.length*bytes<=35184372088832/\
    (rows'=[]->K (.v (.slice none 0 0)) σ)/\(rows'≠[]->∀b u c,u=rows'.length*ah->K (.own ah (d.getD 0) b u c rows') ((d.getD 0,b,.tail u c)::σ))
  |.own e tg b u c rows,some rows'=>e=ah/\aV σ tg=some (b,.tail u c)/\(rows.length+rows'.length)*bytes<=35184372088832/\rows'.all (fun r=>r.all AV.one)=true/\
    ∀b' u' c',(u=rows.length*ah->u'=(rows.length+rows'.length)*ah)->K (.own ah tg b' u' c' (rows++rows')) (du σ tg b' (.tail u' c'))
  |.fl e rows,some rows'=>e=ah/\(rows.length+rows'.length)*bytes<=35184372088832/\(rows'=[]->K (.fl ah rows) σ)/\(rows'≠[]->
    ∀b u c,K (.own ah (d.getD 0) b u c (rows++rows')) ((d.getD 0,b,.tail u c)::σ))
  |_,_=>False
 |.max2 x y=>match ev rg x,ev rg y with
  |.v a,.v b=>match uc false a b with
   |some r=>K (.v r) σ|none=>False
  |_,_=>False
 |.min2 x y=>match ev rg x,ev rg y with
  |.v a,.v b=>match uc true a b with
   |some r=>K (.v r) σ|none=>False
  |_,_=>False
 |.cL op ty ti args=>fH P op ty ti args (aL rg args) σ K|.exts op ty ti args=>fH P op ty ti args (aL rg args) σ K|.panic x=>match ev rg x with
  |.dD t y=>match bR [y]with
   |some [v]=>E [{v:=.iface t v,recovered:=false}] σ|_=>False
  |_=>False
