/-
  The layer Sx, twelfth part: single steps that are computed.
-/
import Derived.Test.YtbihckigennlhaaGreatDoorSxDraw
set_option linter.unusedVariables false
set_option linter.unusedSimpArgs false
set_option linter.unusedSectionVars false
namespace Go.Sx
open Go.RowKit
def fo{α:Type}(x:AV)(k:AV→Option α):Option α:=
 match x with
 | .v (.int q n)=>k (.v (.int q n))
 | .v (.bool b)=>k (.v (.bool b))
 | .v (.string s)=>k (.v (.string s))
 | .v y=>k (.v y)
 | .any=>k .any
 | .agg xs=>k (.agg xs)
 | .tup xs=>k (.tup xs)
 | .sl nn e rows=>k (.sl nn e rows)
 | .own e t b u c rows=>k (.own e t b u c rows)
 | .ms t b o n c=>k (.ms t b o n c)
 | .pc l=>k (.pc l)
 | .ifc t x=>k (.ifc t x)
 | .lp t b o=>k (.lp t b o)
 | .mpt t b=>k (.mpt t b)
 | .ai q=>k (.ai q)
 | .cl f a c=>k (.cl f a c)
 | .fl e rows=>k (.fl e rows)
theorem fo_eq{α:Type}{x:AV}{k:AV→Option α}{r:α}(h:fo x k=some r):k x=some r:=by
 unfold fo at h
 split at h<;>first|exact h|cases h
def foL{α:Type}:List AV→(List AV→Option α)→Option α
 |[],k=>k []
 |x::l,k=>fo x fun y=>foL l fun l'=>k (y::l')
theorem foL_eq{α:Type}:∀ {l:List AV} {k:List AV→Option α} {r:α},foL l k=some r→k l=some r
 |[],_,_,h=>h
 |x::l,k,r,h=>foL_eq (l:=l) (k:=fun l'=>k (x::l')) (fo_eq (k:=fun y=>foL l fun l'=>k (y::l')) h)
def foLL{α:Type}:List (List AV)→(List (List AV)→Option α)→Option α
 |[],k=>k []
 |x::l,k=>foL x fun y=>foLL l fun l'=>k (y::l')
theorem foLL_eq{α:Type}:∀ {l:List (List AV)} {k:List (List AV)→Option α} {r:α},foLL l k=some r→k l=some r
 |[],_,_,h=>h
 |x::l,k,r,h=>foLL_eq (l:=l) (k:=fun l'=>k (x::l')) (foL_eq (k:=fun y=>foLL l fun l'=>k (y::l')) h)
def updS:Store→Nat→Nat→Blk→Option Store
 |[],_,_,_=>none
 |(i,b',x')::r,t,b,x=>bif Nat.beq i t then some ((t,b,x)::r)else match updS r t b x with
  |some r'=>some ((i,b',x')::r')
  |none=>none
theorem updS_eq:∀ {σ:Store} {t b:Nat} {x:Blk} {σ':Store},updS σ t b x=some σ'→upt σ t b x=σ'
 |[],_,_,_,_,h=>by cases h
 |(i,b',x')::r,t,b,x,σ',h=>by
  simp only[updS]at h
  simp only[upt]
  cases hb:Nat.beq i t with
  |true=>rw[hb]at h;simpa using h
  |false=>
   rw[hb]at h
   simp only[cond_false]at h ⊢
   split at h
   ·rename_i r' hr;cases h;rw[updS_eq hr]
   ·cases h
def binD(op:BinOp):Value→Value→Option (Prop×Value)
 | .int k a,.int k' b=>
  match op with
  | .add=>bif k == k' then some (True,.int k (k.wrap (a+b)))else none
  | .sub=>bif k == k' then some (True,.int k (k.wrap (a-b)))else none
  | .mul=>bif k == k' then some (True,.int k (k.wrap (a * b)))else none
  | .quo=>bif k == k' then some (b≠0,.int k (k.wrap (a.tdiv b)))else none
  | .rem=>bif k == k' then some (b≠0,.int k (a.tmod b))else none
  | .eql=>bif k == k' then some (True,.bool (decide (a=b)))else none
  | .neq=>bif k == k' then some (True,.bool (!decide (a=b)))else none
  | .lss=>bif k == k' then some (True,.bool (decide (a<b)))else none
  | .leq=>bif k == k' then some (True,.bool (decide (a≤b)))else none
  | .gtr=>bif k == k' then some (True,.bool (decide (b<a)))else none
  | .geq=>bif k == k' then some (True,.bool (decide (b≤a)))else none
  | .and=>bif k == k' then some (True,.int k (bits .and k a b))else none
  | .or=>bif k == k' then some (True,.int k (bits .or k a b))else none
  | .xor=>bif k == k' then some (True,.int k (bits .xor k a b))else none
  | .andNot=>bif k == k' then some (True,.int k (bits .andNot k a b))else none
  | .shl=>some (0≤b∧b≤k.bits,.int k (k.wrap (a * 2 ^ b.toNat)))
  | .shr=>some (0≤b∧b≤k.bits,.int k (a / 2 ^ b.toNat))
 | .string a,.string b=>
  match op with
  | .add=>some (a.size+b.size≤9223372036854775807,.string (a++b))
  | .eql=>some (True,.bool (decide (a=b)))
  | .neq=>some (True,.bool (!decide (a=b)))
  | .lss=>some (True,.bool (Op.bytesLess a.toList b.toList))
  | .leq=>some (True,.bool (Op.bytesLess a.toList b.toList || decide (a=b)))
  | .gtr=>some (True,.bool (!(Op.bytesLess a.toList b.toList || decide (a=b))))
  | .geq=>some (True,.bool (!Op.bytesLess a.toList b.toList))
  |_=>none
 |_,_=>none
def detO(cfg:Nat→Nat)(d:Option Nat)(rg:Regs)(σ:Store):IOp→Option (Prop×AV×Store)
 | .mv x=>fo (ev rg x) fun v=>some (True,v,σ)
 | .pick c a b=>match ev rg c with
  | .v (.bool true)=>fo (ev rg a) fun v=>some (True,v,σ)
  | .v (.bool false)=>fo (ev rg b) fun v=>some (True,v,σ)
  |_=>none
 | .build z parts=>match fillA (z.map .v) (evp rg parts)with
  |some l=>foL l fun l=>some (True,.agg l,σ)
  |none=>none
 | .mksl _ esz parts=>match rowsOf esz (evs rg parts)with
  |some rows=>match cfg (d.getD 0)with
   |0=>foLL rows fun rows=>some (rows.length≤1000000,.sl true esz rows,σ)
   |3=>foLL rows fun rows=>some (rows.length≤1000000,.fl esz rows,σ)
   |_=>none
  |none=>none
 | .load agg n x=>match ev rg x with
  | .lp t b o=>match lkt σ t with
   |some (b',.cells l)=>match agg with
    |true=>bif Nat.ble (o+n) l.length then foL ((l.drop o).take n) (fun l2=>some (b=b',.agg l2,σ))else none
    |false=>match l[o]? with
     |some y=>fo y fun v=>some (b=b',v,σ)
     |none=>none
   |_=>none
  | .pc l=>match agg with
   |true=>bif Nat.ble n l.length then foL (l.take n) (fun l2=>some (True,.agg l2,σ))else none
   |false=>match l[0]? with
    |some y=>fo y fun v=>some (True,v,σ)
    |none=>none
  |_=>none
 | .store n x y=>match ev rg x,(ev rg y).cells? with
  | .lp t b o,some l'=>match lkt σ t with
   |some (b',.cells l)=>bif Nat.beq l'.length n && l'.all AV.one && Nat.ble (o+n) l.length then foL (over l o l') (fun l2=>match updS σ t b (.cells l2)with
    |some σ'=>some (b=b',.v undef,σ')
    |none=>none)else none
   |_=>none
  |_,_=>none
 | .nilck x=>match ev rg x with
  | .lp t b o=>some (True,.lp t b o,σ)
  | .pc l=>some (True,.pc l,σ)
  |_=>none
 | .bin op x y=>match ev rg x,ev rg y with
  | .v a,.v b=>match binD op a b with
   |some (p,r)=>some (p,.v r,σ)
   |none=>none
  |_,_=>none
 | .eqb neg k x y=>match eqV k (ev rg x) (ev rg y)with
  |some b=>some (True,.v (.bool (b ^^ neg)),σ)
  |none=>none
 | .eqs neg ks x y=>match(ev rg x).acells?,(ev rg y).acells? with
  |some xs,some ys=>match eqCells ks xs ys with
   |some b=>some (True,.v (.bool (b ^^ neg)),σ)
   |none=>none
  |_,_=>none
 | .un op x=>match ev rg x with
  | .v a=>match unV op a with
   |some r=>some (True,.v r,σ)
   |none=>none
  |_=>none
 | .cvint k x=>match ev rg x with
  | .v (.int _ n)=>some (True,.v (.int k (k.wrap n)),σ)
  |_=>none
 | .cvstr x=>match ev rg x with
  | .v (.string s)=>some (True,.v (.string s),σ)
  |_=>none
 | .mkifc t x=>fo (ev rg x) fun v=>some (True,.ifc t v,σ)
 | .mkfn fn first captured=>match exacts (evs rg first),exacts (evs rg captured)with
  |some a,some c=>some (True,.v (.func fn a.toArray c.toArray),σ)
  |_,_=>match fn with
   | .func f=>some (True,.cl f (evs rg first) (evs rg captured),σ)
   |_=>none
 | .slice esz x lo hi=>match idx? (lo.map (ev rg)),idx? (hi.map (ev rg))with
  |some lo,some hi=>match ev rg x with
   | .sl nn e rows=>some (e=esz∧0≤lo.getD 0∧lo.getD 0≤hi.getD rows.length∧hi.getD rows.length≤rows.length,.sl nn esz ((rows.take (hi.getD rows.length).toNat).drop (lo.getD 0).toNat),σ)
   |_=>none
  |_,_=>none
 | .faddr off x=>match ev rg x with
  | .lp t b o=>some (True,.lp t b (o+off),σ)
  | .pc l=>some (True,.pc (l.drop off),σ)
  |_=>none
 | .field agg off n x=>match(ev rg x).acells? with
  |some l=>bif Nat.ble (off+n) l.length then(match agg with
   |true=>foL ((l.drop off).take n) fun l2=>some (True,.agg l2,σ)
   |false=>match l[off]? with
    |some y=>fo y fun v=>some (True,v,σ)
    |none=>none)else none
  |none=>none
 | .iaddr esz x i=>match ev rg i with
  | .v (.int _ i)=>match ev rg x with
   | .sl _ e rows=>some (e=esz∧0≤i∧i<rows.length,.pc (rows.getD i.toNat []),σ)
   | .own e _ _ _ _ rows=>some (e=esz∧0≤i∧i<rows.length,.pc (rows.getD i.toNat []),σ)
   | .ms t b o n _=>some (0≤i∧i<n,.lp t b (o+i.toNat * esz),σ)
   |_=>none
  |_=>none
 | .iaddrA n esz x i=>match ev rg i with
  | .v (.int _ i)=>match ev rg x with
   | .lp t b o=>some (0≤i∧i<n,.lp t b (o+i.toNat * esz),σ)
   | .pc l=>some (0≤i∧i<n,.pc (l.drop (i.toNat * esz)),σ)
   |_=>none
  |_=>none
 | .extract x i=>match ev rg x with
  | .tup xs=>match xs[i]? with
   |some y=>fo y fun v=>some (True,v,σ)
   |none=>none
  |_=>none
 | .len true x=>match ev rg x with
  | .v (.string s)=>some (True,.v (.int .i64 s.size),σ)
  |_=>none
 | .len false x=>match ev rg x with
  | .v (.slice _ n _)=>some (True,.v (.int .i64 n),σ)
  | .ms _ _ _ n _=>some (True,.v (.int .i64 n),σ)
  | .sl _ _ rows=>some (True,.v (.int .i64 rows.length),σ)
  | .own _ _ _ _ _ rows=>some (True,.v (.int .i64 rows.length),σ)
  |_=>none
 | .max2 x y=>match ev rg x,ev rg y with
  | .v a,.v b=>match maxV false a b with
   |some r=>some (True,.v r,σ)
   |none=>none
  |_,_=>none
 | .min2 x y=>match ev rg x,ev rg y with
  | .v a,.v b=>match maxV true a b with
   |some r=>some (True,.v r,σ)
   |none=>none
  |_,_=>none
 |_=>none
theorem binD_sound{op:BinOp}{a b:Value}{p:Prop}{r:Value}{K:Value→Prop}(h:binD op a b=some (p,r))(hp:p)(k:K r):vcBin op a b K:=by
 unfold binD at h
 split at h
 ·rename_i q x q' y
  by_cases e:q=q'
  ·subst e
   cases op<;>simp only[beq_self_eq_true,cond_true,Option.some.injEq,Prod.mk.injEq]at h<;>obtain⟨rfl,rfl⟩:=h<;>simp only[vcBin]
   case shl=>exact⟨hp.1,hp.2,k⟩
   case shr=>exact⟨hp.1,hp.2,k⟩
   case quo=>exact⟨trivial,hp,k⟩
   case rem=>exact⟨trivial,hp,k⟩
   all_goals exact⟨trivial,k⟩
  ·have e':(q == q')=false:=by simpa using e
   cases op<;>simp only[e',cond_false,reduceCtorEq,Option.some.injEq,Prod.mk.injEq]at h<;>simp only[vcBin]
   case shl=>obtain⟨rfl,rfl⟩:=h;exact⟨hp.1,hp.2,k⟩
   case shr=>obtain⟨rfl,rfl⟩:=h;exact⟨hp.1,hp.2,k⟩
 ·cases op<;>simp only[reduceCtorEq]at h<;>simp only[vcBin]
  case add=>cases h;exact⟨hp,k⟩
  all_goals(cases h;exact k)
 ·cases h
theorem ite_none{α:Type}{c:Bool}{o:Option α}{r:α}(h:(bif c then o else none)=some r):c=true∧o=some r:=by
 cases c with
 |true=>exact⟨rfl,h⟩
 |false=>cases h
theorem detO_sound{P:Program}[Glob P]{cfg:Nat→Nat}{d:Option Nat}{rg:Regs}{σ σ':Store}{op:IOp}{p:Prop}{v:AV}{K:AV→Store→Prop}{E:List PanicEntry→Store→Prop}
  (h:detO cfg d rg σ op=some (p,v,σ')) (hp:p) (k:K v σ'):vcO P cfg d rg σ K E op:=by
 cases op with
 |mv x=>simp only[detO]at h;have:=fo_eq h;cases this;exact k
 |pick c x y=>
  simp only[detO]at h
  simp only[vcO]
  split at h
  ·rename_i e;rw[e];have:=fo_eq h;cases this;exact k
  ·rename_i e;rw[e];have:=fo_eq h;cases this;exact k
  ·cases h
 |box t x=>cases h
 |alloc t z=>cases h
 |append t n k z x y=>cases h
 |call f args=>cases h
 |callv f args=>cases h
 |idxs x y=>cases h
 |extq op ty ti args=>cases h
 |exts op ty ti args=>cases h
 |panic x=>cases h
 |build z parts=>
  simp only[detO]at h
  simp only[vcO]
  split at h
  ·rename_i l e;rw[e];have:=foL_eq h;cases this;exact k
  ·cases h
 |mksl t esz parts=>
  simp only[detO]at h
  simp only[vcO]
  split at h
  ·rename_i rows e
   rw[e]
   split at h
   ·rename_i e2;have:=foLL_eq h;cases this;exact⟨hp,by simp only[e2];exact k⟩
   ·rename_i e2;have:=foLL_eq h;cases this;exact⟨hp,by simp only[e2];exact k⟩
   ·cases h
  ·cases h
 |load agg n x=>
  simp only[detO]at h
  simp only[vcO]
  split at h
  ·rename_i t b o e
   rw[e]
   split at h
   ·rename_i b' l e2
    simp only[e2]
    split at h
    ·obtain⟨h1,h⟩:=ite_none h
     have:=foL_eq h
     cases this
     exact⟨hp,by simp only[if_true];exact⟨Nat.le_of_ble_eq_true h1,k⟩⟩
    ·split at h
     ·rename_i y e3
      have:=fo_eq h
      cases this
      exact⟨hp,by simp only[Bool.false_eq_true,if_false,e3];exact k⟩
     ·cases h
   ·cases h
  ·rename_i l e
   rw[e]
   split at h
   ·obtain⟨h1,h⟩:=ite_none h
    have:=foL_eq h
    cases this
    simp only[if_true];exact⟨Nat.le_of_ble_eq_true h1,k⟩
   ·split at h
    ·rename_i y e3
     have:=fo_eq h
     cases this
     simp only[Bool.false_eq_true,if_false,e3];exact k
    ·cases h
  ·cases h
 |store n x y=>
  simp only[detO]at h
  simp only[vcO]
  split at h
  ·rename_i t b o l' e1 e2
   rw[e1,e2]
   split at h
   ·rename_i b' l e3
    simp only[e3]
    obtain⟨h1,h⟩:=ite_none h
    simp only[Bool.and_eq_true]at h1
    replace h:=foL_eq h
    split at h
    case h_2=>cases h
    rename_i σ2 e4
    cases h
    rw[← updS_eq e4]at k
    exact⟨hp,Nat.eq_of_beq_eq_true h1.1.1,h1.1.2,Nat.le_of_ble_eq_true h1.2,k⟩
   ·cases h
  ·cases h
 |nilck x=>
  simp only[detO]at h
  simp only[vcO]
  split at h
  ·rename_i e;rw[e];cases h;exact k
  ·rename_i e;rw[e];cases h;exact k
  ·cases h
 |bin op x y=>
  simp only[detO]at h
  simp only[vcO]
  split at h
  ·rename_i a b e1 e2
   rw[e1,e2]
   split at h
   ·rename_i p' r e3;cases h;exact binD_sound e3 hp k
   ·cases h
  ·cases h
 |eqb neg q x y=>
  simp only[detO]at h
  simp only[vcO]
  split at h
  ·rename_i b e;rw[e];cases h;exact k
  ·cases h
 |eqs neg ks x y=>
  simp only[detO]at h
  simp only[vcO]
  split at h
  ·rename_i xs ys e1 e2
   rw[e1,e2]
   split at h
   ·rename_i b e;simp only[e];cases h;exact k
   ·cases h
  ·cases h
 |un op x=>
  simp only[detO]at h
  simp only[vcO]
  split at h
  ·rename_i a e1
   rw[e1]
   split at h
   ·rename_i r e;simp only[e];cases h;exact k
   ·cases h
  ·cases h
 |cvint q x=>
  simp only[detO]at h
  simp only[vcO]
  split at h
  ·rename_i e;rw[e];cases h;exact k
  ·cases h
 |cvstr x=>
  simp only[detO]at h
  simp only[vcO]
  split at h
  ·rename_i e;rw[e];cases h;exact k
  ·cases h
 |mkifc t x=>simp only[detO]at h;have:=fo_eq h;cases this;exact k
 |mkfn fn first captured=>
  simp only[detO]at h
  simp only[vcO]
  split at h
  ·rename_i e1 e2;rw[e1,e2];cases h;exact k
  ·split at h
   ·cases h;first|(simp only[*];done)|(simp only[*];exact k)
   ·cases h
 |slice esz x lo hi=>
  simp only[detO]at h
  simp only[vcO]
  split at h
  ·rename_i rlo rhi e1 e2
   rw[e1,e2]
   split at h
   ·rename_i nn e rows e3;simp only[e3];cases h;exact⟨hp.1,hp.2.1,hp.2.2.1,hp.2.2.2,k⟩
   ·cases h
  ·cases h
 |faddr off x=>
  simp only[detO]at h
  simp only[vcO]
  split at h
  ·rename_i e;rw[e];cases h;exact k
  ·rename_i e;rw[e];cases h;exact k
  ·cases h
 |field agg off n x=>
  simp only[detO]at h
  simp only[vcO]
  split at h
  ·rename_i l e
   rw[e]
   obtain⟨h1,h⟩:=ite_none h
   refine⟨Nat.le_of_ble_eq_true h1,?_⟩
   split at h
   ·have:=foL_eq h;cases this;exact k
   ·split at h
    ·rename_i y e3
     have:=fo_eq h
     cases this
     simp only[Bool.false_eq_true,if_false,e3];exact k
    ·cases h
  ·cases h
 |iaddr esz x i=>
  simp only[detO]at h
  simp only[vcO]
  split at h
  ·rename_i q j e1
   rw[e1]
   split at h
   ·rename_i e;simp only[e];cases h;exact⟨hp.1,hp.2.1,hp.2.2,k⟩
   ·rename_i e;simp only[e];cases h;exact⟨hp.1,hp.2.1,hp.2.2,k⟩
   ·rename_i e;simp only[e];cases h;exact⟨hp.1,hp.2,k⟩
   ·cases h
  ·cases h
 |iaddrA n esz x i=>
  simp only[detO]at h
  simp only[vcO]
  split at h
  ·rename_i q j e1
   rw[e1]
   split at h
   ·rename_i e;simp only[e];cases h;exact⟨hp.1,hp.2,k⟩
   ·rename_i e;simp only[e];cases h;exact⟨hp.1,hp.2,k⟩
   ·cases h
  ·cases h
 |extract x i=>
  simp only[detO]at h
  simp only[vcO]
  split at h
  ·rename_i xs e1
   rw[e1]
   split at h
   ·rename_i y e;simp only[e];have:=fo_eq h;cases this;exact k
   ·cases h
  ·cases h
 |len s x=>
  cases s with
  |true=>
   simp only[detO]at h
   simp only[vcO]
   split at h
   ·rename_i e;rw[e];cases h;exact k
   ·cases h
  |false=>
   simp only[detO]at h
   simp only[vcO]
   split at h
   ·rename_i e;rw[e];cases h;exact k
   ·rename_i e;rw[e];cases h;exact k
   ·rename_i e;rw[e];cases h;exact fun _=>k
   ·rename_i e;rw[e];cases h;exact fun _=>k
   ·cases h
 |max2 x y=>
  simp only[detO]at h
  simp only[vcO]
  split at h
  ·rename_i a b e1 e2
   rw[e1,e2]
   split at h
   ·rename_i r e;simp only[e];cases h;exact k
   ·cases h
  ·cases h
 |min2 x y=>
  simp only[detO]at h
  simp only[vcO]
  split at h
  ·rename_i a b e1 e2
   rw[e1,e2]
   split at h
   ·rename_i r e;simp only[e];cases h;exact k
   ·cases h
  ·cases h
def StEq(σ σ':Store):Prop:=(∀ t,lkt σ t=lkt σ' t)∧σ.Perm σ'
theorem StEq.refl(σ:Store):StEq σ σ:=⟨fun _=>rfl,.refl _⟩
theorem StEq.symm{σ σ':Store}(h:StEq σ σ'):StEq σ' σ:=⟨fun t=>(h.1 t).symm,h.2.symm⟩
theorem StEq.trans{a b c:Store}(h:StEq a b)(k:StEq b c):StEq a c:=⟨fun t=>(h.1 t).trans (k.1 t),h.2.trans k.2⟩
theorem lkt_cons(t b:Nat)(x:Blk)(σ:Store)(s:Nat):lkt ((t,b,x)::σ) s=if t=s then some (b,x)else lkt σ s:=by
 simp only[lkt]
 cases h:Nat.beq t s with
 |true=>rw[if_pos (Nat.eq_of_beq_eq_true h)];rfl
 |false=>rw[if_neg (fun e=>by subst e;simp[Nat.beq_refl]at h)];rfl
theorem StEq.cons{σ σ':Store}(e:Nat×Nat×Blk)(h:StEq σ σ'):StEq (e::σ) (e::σ'):=by
 obtain⟨t,b,x⟩:=e
 exact⟨fun s=>by rw[lkt_cons,lkt_cons,h.1 s],h.2.cons _⟩
theorem StEq.swap{t t' b b':Nat}{x x':Blk}(h:t≠t')(σ:Store):StEq ((t,b,x)::(t',b',x')::σ) ((t',b',x')::(t,b,x)::σ):=
 ⟨fun s=>by
  simp only[lkt_cons]
  by_cases h1:t=s
  ·by_cases h2:t'=s
   ·exact absurd (h1.trans h2.symm) h
   ·simp[h1,h2]
  ·by_cases h2:t'=s<;>simp[h1,h2],List.Perm.swap _ _ _⟩
theorem lkt_upt{t b:Nat}{x:Blk}:∀ {σ:Store},lkt σ t=some (b,x)→∀ b' x' s,lkt (upt σ t b' x') s=if t=s then some (b',x')else lkt σ s
 |[],h,_,_,_=>by cases h
 |(i,c,y)::σ,h,b',x',s=>by
  rw[lkt_cons]at h
  simp only[upt]
  cases hb:Nat.beq i t with
  |true=>
   obtain rfl:=Nat.eq_of_beq_eq_true hb
   simp only[cond_true,lkt_cons]
   split<;>rfl
  |false=>
   have hne:i≠t:=fun e=>by subst e;simp[Nat.beq_refl]at hb
   rw[if_neg hne]at h
   simp only[cond_false,lkt_cons,lkt_upt h b' x' s]
   by_cases h1:i=s
   ·have:t≠s:=fun e=>hne (h1.trans e.symm)
    simp[h1,this]
   ·simp[h1]
theorem StEq.upt{σ σ':Store}(h:StEq σ σ'){t b:Nat}{x:Blk}(hb:lkt σ t=some (b,x))(b':Nat)(x':Blk):StEq (Sx.upt σ t b' x') (Sx.upt σ' t b' x'):=by
 have hb':lkt σ' t=some (b,x):=(h.1 t).symm.trans hb
 refine⟨fun s=>by rw[lkt_upt hb,lkt_upt hb',h.1 s],?_⟩
 obtain⟨p,q,e,k⟩:=upt_split hb
 obtain⟨p',q',e',k'⟩:=upt_split hb'
 rw[k,k']
 have hp:=h.2
 rw[e,e']at hp
 have h1:((t,b,x)::(p++q)).Perm ((t,b,x)::(p'++q')):=(List.perm_middle.symm.trans hp).trans List.perm_middle
 exact(List.perm_middle.trans ((h1.cons_inv).cons _)).trans List.perm_middle.symm
theorem Inv.perm{P:Program}[Glob P]{M:Mem}{w0:Base}{w:World}{σ σ':Store}(hI:Inv P M w0 σ w)(h:σ.Perm σ'):Inv P M w0 σ' w:=
 ⟨hI.os,hI.tape,hI.output,hI.size,hI.old,hI.imm,fun e he=>hI.st e (h.mem_iff.2 he),((h.map _).nodup_iff).1 hI.nd,hI.gl,hI.gw,hI.bm⟩
theorem vcOQ_free{P:Program}[Glob P]{cfg:Nat→Nat}{d:Option Nat}{rg:Regs}{σ:Store}{K:AV→Prop}{op:IOp}(hl:op.cls=0)(h:vcOQ P cfg d rg σ K op):
  ∃ x,K x∧∀ (σ':Store) (K':AV→Prop),K' x→vcOQ P cfg d rg σ' K' op:=by
 cases op with
 |box t x=>exact h.elim
 |alloc t z=>exact h.elim
 |store n x y=>exact h.elim
 |append t n k z x y=>exact h.elim
 |exts op ty ti args=>exact h.elim
 |panic x=>exact h.elim
 |extq op ty ti args=>obtain⟨r,hp,hk⟩:=h;exact⟨r,hk,fun σ' K' h=>⟨r,hp,h⟩⟩
 |call f args=>obtain⟨r,hp,hk⟩:=h;exact⟨r,hk,fun σ' K' h=>⟨r,hp,h⟩⟩
 |callv f args=>
  simp only[vcOQ]at h
  simp only[vcOQ,vcO]
  split at h
  ·rename_i g b c he
   obtain⟨hcl,r,hp,hk⟩:=h
   (try rw[he])
   exact⟨r,hk,fun σ' K' h=>⟨hcl,r,hp,h⟩⟩
  ·rename_i g b c he
   obtain⟨hcl,r,hp,hk⟩:=h
   (try rw[he])
   exact⟨r,hk,fun σ' K' h=>⟨hcl,r,hp,h⟩⟩
  ·exact h.elim
 |mksl t esz parts=>
  simp only[vcOQ]at h
  simp only[vcOQ,vcO]
  split at h
  ·rename_i rows he
   (try rw[he])
   obtain⟨hn,h⟩:=h
   split at h
   ·rename_i e;exact⟨_,h,fun σ' K' hk=>⟨hn,by first|exact hk|(rw[e];exact hk)|(simp[e];exact hk)⟩⟩
   ·rename_i e;exact⟨_,h,fun σ' K' hk=>⟨hn,by first|exact hk|(rw[e];exact hk)|(simp[e];exact hk)⟩⟩
   ·exact h.elim
  ·exact h.elim
 |len s x=>
  cases s<;>simp only[vcOQ]at h<;>simp only[vcOQ]
  ·split at h
   ·rename_i b n c he;(try rw[he]);exact⟨_,h,fun σ' K' hk=>hk⟩
   ·rename_i tg b o n c he;(try rw[he]);exact⟨_,h,fun σ' K' hk=>hk⟩
   ·rename_i nn ez rows he;(try rw[he]);exact⟨_,h,fun σ' K' hk=>hk⟩
   ·rename_i ez tg b u c rows he;(try rw[he]);exact⟨_,h,fun σ' K' hk=>hk⟩
   ·exact h.elim
  ·split at h
   ·rename_i s he;(try rw[he]);exact⟨_,h,fun σ' K' hk=>hk⟩
   ·exact h.elim
 |mv x=>exact⟨_,h,fun σ' K' hk=>hk⟩
 |mkifc t x=>exact⟨_,h,fun σ' K' hk=>hk⟩
 |pick c x y=>
  simp only[vcOQ,vcO]at h
  simp only[vcOQ,vcO]
  split at h
  ·rename_i t he;(try rw[he]);exact⟨_,h,fun σ' K' hk=>hk⟩
  ·exact h.elim
 |build z parts=>
  simp only[vcOQ,vcO]at h
  simp only[vcOQ,vcO]
  split at h
  ·rename_i t he;(try rw[he]);exact⟨_,h,fun σ' K' hk=>hk⟩
  ·exact h.elim
 |load g n x=>cases hl
 |nilck x=>
  simp only[vcOQ,vcO]at h
  simp only[vcOQ,vcO]
  split at h<;>first|exact h.elim|(rename_i he;(try rw[he]);exact⟨_,h,fun σ' K' hk=>hk⟩)
 |bin op x y=>
  simp only[vcOQ,vcO]at h
  simp only[vcOQ,vcO]
  split at h
  ·rename_i u v hu hv
   (try rw[hu,hv])
   obtain⟨z,hz,hz'⟩:=vcBin_det h
   exact⟨.v z,hz,fun σ' K' hk=>hz' _ hk⟩
  ·exact h.elim
 |eqb n k x y=>
  simp only[vcOQ,vcO]at h
  simp only[vcOQ,vcO]
  split at h
  ·rename_i t he;(try rw[he]);exact⟨_,h,fun σ' K' hk=>hk⟩
  ·exact h.elim
 |eqs n k x y=>
  simp only[vcOQ,vcO]at h
  simp only[vcOQ,vcO]
  split at h
  ·rename_i xs ys h1 h2
   (try rw[h1,h2])
   split at h
   ·rename_i t he;(try simp only[he]);exact⟨_,h,fun σ' K' hk=>hk⟩
   ·exact h.elim
  ·exact h.elim
 |un op x=>
  simp only[vcOQ,vcO]at h
  simp only[vcOQ,vcO]
  split at h
  ·rename_i u hu
   (try rw[hu])
   split at h
   ·rename_i t he;(try simp only[he]);exact⟨_,h,fun σ' K' hk=>hk⟩
   ·exact h.elim
  ·exact h.elim
 |cvint k x=>
  simp only[vcOQ,vcO]at h
  simp only[vcOQ,vcO]
  split at h
  ·rename_i k' n he;(try rw[he]);exact⟨_,h,fun σ' K' hk=>hk⟩
  ·exact h.elim
 |cvstr x=>
  simp only[vcOQ,vcO]at h
  simp only[vcOQ,vcO]
  split at h
  ·rename_i s he;(try rw[he]);exact⟨_,h,fun σ' K' hk=>hk⟩
  ·exact h.elim
 |mkfn fn first captured=>
  simp only[vcOQ,vcO]at h
  simp only[vcOQ,vcO]
  split at h
  ·rename_i u v h1 h2;(try rw[h1,h2]);exact⟨_,h,fun σ' K' hk=>hk⟩
  ·split at h
   ·exact⟨_,h,fun σ' K' hk=>hk⟩
   ·exact h.elim
 |slice esz x lo hi=>
  simp only[vcOQ,vcO]at h
  simp only[vcOQ,vcO]
  split at h
  ·rename_i rlo rhi h1 h2
   (try rw[h1,h2])
   split at h
   ·rename_i nn e rows he;(try simp only[he]);exact⟨_,h.2.2.2.2,fun σ' K' hk=>⟨h.1,h.2.1,h.2.2.1,h.2.2.2.1,hk⟩⟩
   ·rename_i e tg b u c rows he;(try simp only[he]);exact⟨_,h.2.2.2.2,fun σ' K' hk=>⟨h.1,h.2.1,h.2.2.1,h.2.2.2.1,hk⟩⟩
   ·rename_i he;(try simp only[he]);exact⟨_,h.2.2,fun σ' K' hk=>⟨h.1,h.2.1,hk⟩⟩
   ·exact h.elim
  ·exact h.elim
 |faddr off x=>
  simp only[vcOQ,vcO]at h
  simp only[vcOQ,vcO]
  split at h<;>first|exact h.elim|(rename_i he;(try rw[he]);exact⟨_,h,fun σ' K' hk=>hk⟩)
 |field g o n x=>
  simp only[vcOQ,vcO]at h
  simp only[vcOQ,vcO]
  split at h
  ·rename_i l hl
   (try rw[hl])
   obtain⟨hlt,h⟩:=h
   cases g with
   |true=>simp only[if_true]at h ⊢;exact⟨_,h,fun σ' K' hk=>⟨hlt,hk⟩⟩
   |false=>
    simp only[Bool.false_eq_true,if_false]at h ⊢
    split at h
    ·rename_i y hy;(try rw[hy]);exact⟨_,h,fun σ' K' hk=>⟨hlt,hk⟩⟩
    ·exact h.elim
  ·exact h.elim
 |iaddr esz x i=>
  simp only[vcOQ,vcO]at h
  simp only[vcOQ,vcO]
  split at h
  ·rename_i k j hi
   (try rw[hi])
   split at h
   ·rename_i nn e rows he;(try simp only[he]);exact⟨_,h.2.2.2,fun σ' K' hk=>⟨h.1,h.2.1,h.2.2.1,hk⟩⟩
   ·rename_i e tg b u c rows he;(try simp only[he]);exact⟨_,h.2.2.2,fun σ' K' hk=>⟨h.1,h.2.1,h.2.2.1,hk⟩⟩
   ·rename_i tg b o n c he;(try simp only[he]);exact⟨_,h.2.2,fun σ' K' hk=>⟨h.1,h.2.1,hk⟩⟩
   ·exact h.elim
  ·exact h.elim
 |iaddrA n esz x i=>
  simp only[vcOQ,vcO]at h
  simp only[vcOQ,vcO]
  split at h
  ·rename_i k j hi
   (try rw[hi])
   split at h
   ·rename_i tg b o he;(try simp only[he]);exact⟨_,h.2.2,fun σ' K' hk=>⟨h.1,h.2.1,hk⟩⟩
   ·rename_i l he;(try simp only[he]);exact⟨_,h.2.2,fun σ' K' hk=>⟨h.1,h.2.1,hk⟩⟩
   ·rename_i g o he;(try simp only[he]);obtain⟨l,ha,h0,h1,h2,h3⟩:=h;exact⟨_,h3,fun σ' K' hk=>⟨l,ha,h0,h1,h2,hk⟩⟩
   ·exact h.elim
  ·exact h.elim
 |idxs x i=>
  simp only[vcOQ,vcO]at h
  simp only[vcOQ,vcO]
  split at h
  ·rename_i k j s h1 h2
   (try rw[h1,h2])
   obtain⟨hlt,h⟩:=h
   exact⟨_,h,fun σ' K' hk=>⟨hlt,hk⟩⟩
  ·exact h.elim
 |extract x i=>
  simp only[vcOQ,vcO]at h
  simp only[vcOQ,vcO]
  split at h
  ·rename_i xs he
   (try rw[he])
   split at h
   ·rename_i y hy;(try simp only[hy]);exact⟨_,h,fun σ' K' hk=>hk⟩
   ·exact h.elim
  ·rename_i xs he
   (try rw[he])
   split at h
   ·rename_i y hy;(try simp only[hy]);exact⟨_,h,fun σ' K' hk=>hk⟩
   ·exact h.elim
  ·exact h.elim
 |max2 x y=>
  simp only[vcOQ,vcO]at h
  simp only[vcOQ,vcO]
  split at h
  ·rename_i u v h1 h2
   (try rw[h1,h2])
   split at h
   ·rename_i t he;(try simp only[he]);exact⟨_,h,fun σ' K' hk=>hk⟩
   ·exact h.elim
  ·exact h.elim
 |min2 x y=>
  simp only[vcOQ,vcO]at h
  simp only[vcOQ,vcO]
  split at h
  ·rename_i u v h1 h2
   (try rw[h1,h2])
   split at h
   ·rename_i t he;(try simp only[he]);exact⟨_,h,fun σ' K' hk=>hk⟩
   ·exact h.elim
  ·exact h.elim
end Go.Sx
