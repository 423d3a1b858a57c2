/-
  The layer Sx, twelfth part: single steps that are computed.
-/
import Derived.Test.YtbihckigennlhaaGreatDoorSxDraw
set_option linter.unusedVariables false
set_option linter.unusedSimpArgs false
set_option linter.unusedSectionVars false
namespace Go.Sx
open Go.RowKit
def fo{α:Type}(x:AV)(k:AV→Option α):Option α:=
 match x with
 | .v (.int q n)=>k (.v (.int q n))
 | .v (.bool b)=>k (.v (.bool b))
 | .v (.string s)=>k (.v (.string s))
 | .v y=>k (.v y)
 | .any=>k .any
 | .agg xs=>k (.agg xs)
 | .aL xs=>k (.aL xs)
 | .sl nn e rows=>k (.sl nn e rows)
 | .own e t b u c rows=>k (.own e t b u c rows)
 | .ms t b o n c=>k (.ms t b o n c)
 | .pc l=>k (.pc l)
 | .gp t x=>k (.gp t x)
 | .lp t b o=>k (.lp t b o)
 | .dY t b=>k (.dY t b)
 | .ai q=>k (.ai q)
 | .cl f a c=>k (.cl f a c)
 | .fl e rows=>k (.fl e rows)
theorem gB{α:Type}{x:AV}{k:AV→Option α}{r:α}(h:fo x k=some r):k x=some r:=by
 unfold fo at h
 split at h<;>first|exact h|cases h
def iR{α:Type}:List AV→(List AV→Option α)→Option α
 |[],k=>k []
 |x::l,k=>fo x fun y=>iR l fun l'=>k (y::l')
theorem ij{α:Type}:∀ {l:List AV} {k:List AV→Option α} {r:α},iR l k=some r→k l=some r
 |[],_,_,h=>h
 |x::l,k,r,h=>ij (l:=l) (k:=fun l'=>k (x::l')) (gB (k:=fun y=>iR l fun l'=>k (y::l')) h)
def wo{α:Type}:List (List AV)→(List (List AV)→Option α)→Option α
 |[],k=>k []
 |x::l,k=>iR x fun y=>wo l fun l'=>k (y::l')
theorem qT{α:Type}:∀ {l:List (List AV)} {k:List (List AV)→Option α} {r:α},wo l k=some r→k l=some r
 |[],_,_,h=>h
 |x::l,k,r,h=>qT (l:=l) (k:=fun l'=>k (x::l')) (ij (k:=fun y=>wo l fun l'=>k (y::l')) h)
def sE:Store→Nat→Nat→cp→Option Store
 |[],_,_,_=>none
 |(i,b',x')::r,t,b,x=>bif Nat.beq i t then some ((t,b,x)::r)else match sE r t b x with
  |some r'=>some ((i,b',x')::r')
  |none=>none
theorem A7:∀ {σ:Store} {t b:Nat} {x:cp} {σ':Store},sE σ t b x=some σ'→ck σ t b x=σ'
 |[],_,_,_,_,h=>by cases h
 |(i,b',x')::r,t,b,x,σ',h=>by
  simp only[sE]at h
  simp only[ck]
  cases hb:Nat.beq i t with
  |true=>rw[hb]at h;simpa using h
  |false=>
   rw[hb]at h
   simp only[X9]at h ⊢
   split at h
   ·rename_i r' hr;cases h;rw[A7 hr]
   ·cases h
def yE(op:BinOp):Value→Value→Option (Prop×Value)
 | .int k a,.int k' b=>
  match op with
  | .add=>bif k == k' then some (True,.int k (k.wrap (a+b)))else none
  | .sub=>bif k == k' then some (True,.int k (k.wrap (a-b)))else none
  | .mul=>bif k == k' then some (True,.int k (k.wrap (a * b)))else none
  | .quo=>bif k == k' then some (b≠0,.int k (k.wrap (a.tdiv b)))else none
  | .rem=>bif k == k' then some (b≠0,.int k (a.tmod b))else none
  | .eql=>bif k == k' then some (True,.bool (decide (a=b)))else none
  | .neq=>bif k == k' then some (True,.bool (!decide (a=b)))else none
  | .lss=>bif k == k' then some (True,.bool (decide (a<b)))else none
  | .leq=>bif k == k' then some (True,.bool (decide (a≤b)))else none
  | .gtr=>bif k == k' then some (True,.bool (decide (b<a)))else none
  | .geq=>bif k == k' then some (True,.bool (decide (b≤a)))else none
  | .and=>bif k == k' then some (True,.int k (bits .and k a b))else none
  | .or=>bif k == k' then some (True,.int k (bits .or k a b))else none
  | .xor=>bif k == k' then some (True,.int k (bits .xor k a b))else none
  | .andNot=>bif k == k' then some (True,.int k (bits .andNot k a b))else none
  | .shl=>some (0≤b∧b≤k.bits,.int k (k.wrap (a * 2 ^ b.toNat)))
  | .shr=>some (0≤b∧b≤k.bits,.int k (a / 2 ^ b.toNat))
 | .string a,.string b=>
  match op with
  | .add=>some (a.size+b.size≤9223372036854775807,.string (a++b))
  | .eql=>some (True,.bool (decide (a=b)))
  | .neq=>some (True,.bool (!decide (a=b)))
  | .lss=>some (True,.bool (Op.bytesLess a.toList b.toList))
  | .leq=>some (True,.bool (Op.bytesLess a.toList b.toList || decide (a=b)))
  | .gtr=>some (True,.bool (!(Op.bytesLess a.toList b.toList || decide (a=b))))
  | .geq=>some (True,.bool (!Op.bytesLess a.toList b.toList))
  |_=>none
 |_,_=>none
def cH(cfg:Nat→Nat)(d:Option Nat)(rg:ae)(σ:Store):au→Option (Prop×AV×Store)
 | .mv x=>fo (ev rg x) fun v=>some (True,v,σ)
 | .pick c a b=>match ev rg c with
  | .v (.bool true)=>fo (ev rg a) fun v=>some (True,v,σ)
  | .v (.bool false)=>fo (ev rg b) fun v=>some (True,v,σ)
  |_=>none
 | .build z parts=>match tH (z.map .v) (nY rg parts)with
  |some l=>iR l fun l=>some (True,.agg l,σ)
  |none=>none
 | .bh _ af parts=>match rowsOf af (aQ rg parts)with
  |some rows=>match cfg (d.getD 0)with
   |0=>wo rows fun rows=>some (rows.length≤1000000,.sl true af rows,σ)
   |3=>wo rows fun rows=>some (rows.length≤1000000,.fl af rows,σ)
   |_=>none
  |none=>none
 | .load agg n x=>match ev rg x with
  | .lp t b o=>match aK σ t with
   |some (b',.cells l)=>match agg with
    |true=>bif Nat.ble (o+n) l.length then iR ((l.drop o).take n) (fun l2=>some (b=b',.agg l2,σ))else none
    |false=>match l[o]? with
     |some y=>fo y fun v=>some (b=b',v,σ)
     |none=>none
   |_=>none
  | .pc l=>match agg with
   |true=>bif Nat.ble n l.length then iR (l.take n) (fun l2=>some (True,.agg l2,σ))else none
   |false=>match l[0]? with
    |some y=>fo y fun v=>some (True,v,σ)
    |none=>none
  |_=>none
 | .store n x y=>match ev rg x,(ev rg y).cells? with
  | .lp t b o,some l'=>match aK σ t with
   |some (b',.cells l)=>bif Nat.beq l'.length n && l'.all AV.one && Nat.ble (o+n) l.length then iR (over l o l') (fun l2=>match sE σ t b (.cells l2)with
    |some σ'=>some (b=b',.v undef,σ')
    |none=>none)else none
   |_=>none
  |_,_=>none
 | .jw x=>match ev rg x with
  | .lp t b o=>some (True,.lp t b o,σ)
  | .pc l=>some (True,.pc l,σ)
  |_=>none
 | .bin op x y=>match ev rg x,ev rg y with
  | .v a,.v b=>match yE op a b with
   |some (p,r)=>some (p,.v r,σ)
   |none=>none
  |_,_=>none
 | .gz neg k x y=>match yO k (ev rg x) (ev rg y)with
  |some b=>some (True,.v (.bool (b ^^ neg)),σ)
  |none=>none
 | .eqs neg ks x y=>match(ev rg x).lq,(ev rg y).lq with
  |some xs,some ys=>match pg ks xs ys with
   |some b=>some (True,.v (.bool (b ^^ neg)),σ)
   |none=>none
  |_,_=>none
 | .un op x=>match ev rg x with
  | .v a=>match EX op a with
   |some r=>some (True,.v r,σ)
   |none=>none
  |_=>none
 | .kj k x=>match ev rg x with
  | .v (.int _ n)=>some (True,.v (.int k (k.wrap n)),σ)
  |_=>none
 | .nU x=>match ev rg x with
  | .v (.string s)=>some (True,.v (.string s),σ)
  |_=>none
 | .kK t x=>fo (ev rg x) fun v=>some (True,.gp t v,σ)
 | .fI fn first captured=>match km (aQ rg first),km (aQ rg captured)with
  |some a,some c=>some (True,.v (.func fn a.toArray c.toArray),σ)
  |_,_=>match fn with
   | .func f=>some (True,.cl f (aQ rg first) (aQ rg captured),σ)
   |_=>none
 | .slice af x lo hi=>match nj (lo.map (ev rg)),nj (hi.map (ev rg))with
  |some lo,some hi=>match ev rg x with
   | .sl nn e rows=>some (e=af∧0≤lo.getD 0∧lo.getD 0≤hi.getD rows.length∧hi.getD rows.length≤rows.length,.sl nn af ((rows.take (hi.getD rows.length).toNat).drop (lo.getD 0).toNat),σ)
   |_=>none
  |_,_=>none
 | .ig off x=>match ev rg x with
  | .lp t b o=>some (True,.lp t b (o+off),σ)
  | .pc l=>some (True,.pc (l.drop off),σ)
  |_=>none
 | .field agg off n x=>match(ev rg x).lq with
  |some l=>bif Nat.ble (off+n) l.length then(match agg with
   |true=>iR ((l.drop off).take n) fun l2=>some (True,.agg l2,σ)
   |false=>match l[off]? with
    |some y=>fo y fun v=>some (True,v,σ)
    |none=>none)else none
  |none=>none
 | .er af x i=>match ev rg i with
  | .v (.int _ i)=>match ev rg x with
   | .sl _ e rows=>some (e=af∧0≤i∧i<rows.length,.pc (rows.getD i.toNat []),σ)
   | .own e _ _ _ _ rows=>some (e=af∧0≤i∧i<rows.length,.pc (rows.getD i.toNat []),σ)
   | .ms t b o n _=>some (0≤i∧i<n,.lp t b (o+i.toNat * af),σ)
   |_=>none
  |_=>none
 | .gV n af x i=>match ev rg i with
  | .v (.int _ i)=>match ev rg x with
   | .lp t b o=>some (0≤i∧i<n,.lp t b (o+i.toNat * af),σ)
   | .pc l=>some (0≤i∧i<n,.pc (l.drop (i.toNat * af)),σ)
   |_=>none
  |_=>none
 | .extract x i=>match ev rg x with
  | .aL xs=>match xs[i]? with
   |some y=>fo y fun v=>some (True,v,σ)
   |none=>none
  |_=>none
 | .len true x=>match ev rg x with
  | .v (.string s)=>some (True,.v (.int .i64 s.size),σ)
  |_=>none
 | .len false x=>match ev rg x with
  | .v (.slice _ n _)=>some (True,.v (.int .i64 n),σ)
  | .ms _ _ _ n _=>some (True,.v (.int .i64 n),σ)
  | .sl _ _ rows=>some (True,.v (.int .i64 rows.length),σ)
  | .own _ _ _ _ _ rows=>some (True,.v (.int .i64 rows.length),σ)
  |_=>none
 | .max2 x y=>match ev rg x,ev rg y with
  | .v a,.v b=>match uJ false a b with
   |some r=>some (True,.v r,σ)
   |none=>none
  |_,_=>none
 | .min2 x y=>match ev rg x,ev rg y with
  | .v a,.v b=>match uJ true a b with
   |some r=>some (True,.v r,σ)
   |none=>none
  |_,_=>none
 |_=>none
theorem Q7{op:BinOp}{a b:Value}{p:Prop}{r:Value}{K:Value→Prop}(h:yE op a b=some (p,r))(hp:p)(k:K r):me op a b K:=by
 unfold yE at h
 split at h
 ·rename_i q x q' y
  by_cases e:q=q'
  ·subst e
   cases op<;>simp only[beq_self_eq_true,cond_true,Z6,Y5]at h<;>obtain⟨rfl,rfl⟩:=h<;>simp only[me]
   case shl=>exact⟨hp.1,hp.2,k⟩
   case shr=>exact⟨hp.1,hp.2,k⟩
   case quo=>exact⟨trivial,hp,k⟩
   case rem=>exact⟨trivial,hp,k⟩
   all_goals exact⟨trivial,k⟩
  ·have e':(q == q')=false:=by simpa using e
   cases op<;>simp only[e',X9,reduceCtorEq,Z6,Y5]at h<;>simp only[me]
   case shl=>obtain⟨rfl,rfl⟩:=h;exact⟨hp.1,hp.2,k⟩
   case shr=>obtain⟨rfl,rfl⟩:=h;exact⟨hp.1,hp.2,k⟩
 ·cases op<;>simp only[reduceCtorEq]at h<;>simp only[me]
  case add=>cases h;exact⟨hp,k⟩
  all_goals(cases h;exact k)
 ·cases h
theorem ox{α:Type}{c:Bool}{o:Option α}{r:α}(h:(bif c then o else none)=some r):c=true∧o=some r:=by
 cases c with
 |true=>exact⟨rfl,h⟩
 |false=>cases h
theorem yK{P:Program}[Glob P]{cfg:Nat→Nat}{d:Option Nat}{rg:ae}{σ σ':Store}{op:au}{p:Prop}{v:AV}{K:AV→Store→Prop}{E:List PanicEntry→Store→Prop}
  (h:cH cfg d rg σ op=some (p,v,σ')) (hp:p) (k:K v σ'):aj P cfg d rg σ K E op:=by
 cases op with
 |mv x=>simp only[cH]at h;have:=gB h;cases this;exact k
 |pick c x y=>
  simp only[cH]at h
  simp only[aj]
  split at h
  ·rename_i e;rw[e];have:=gB h;cases this;exact k
  ·rename_i e;rw[e];have:=gB h;cases this;exact k
  ·cases h
 |box t x=>cases h
 |alloc t z=>cases h
 |append t n k z x y=>cases h
 |call f args=>cases h
 |dp f args=>cases h
 |idxs x y=>cases h
 |b8 op ty ti args=>cases h
 |exts op ty ti args=>cases h
 |panic x=>cases h
 |build z parts=>
  simp only[cH]at h
  simp only[aj]
  split at h
  ·rename_i l e;rw[e];have:=ij h;cases this;exact k
  ·cases h
 |bh t af parts=>
  simp only[cH]at h
  simp only[aj]
  split at h
  ·rename_i rows e
   rw[e]
   split at h
   ·rename_i e2;have:=qT h;cases this;exact⟨hp,by simp only[e2];exact k⟩
   ·rename_i e2;have:=qT h;cases this;exact⟨hp,by simp only[e2];exact k⟩
   ·cases h
  ·cases h
 |load agg n x=>
  simp only[cH]at h
  simp only[aj]
  split at h
  ·rename_i t b o e
   rw[e]
   split at h
   ·rename_i b' l e2
    simp only[e2]
    split at h
    ·obtain⟨h1,h⟩:=ox h
     have:=ij h
     cases this
     exact⟨hp,by simp only[Ze];exact⟨Z9 h1,k⟩⟩
    ·split at h
     ·rename_i y e3
      have:=gB h
      cases this
      exact⟨hp,by simp only[ZT,ZA,e3];exact k⟩
     ·cases h
   ·cases h
  ·rename_i l e
   rw[e]
   split at h
   ·obtain⟨h1,h⟩:=ox h
    have:=ij h
    cases this
    simp only[Ze];exact⟨Z9 h1,k⟩
   ·split at h
    ·rename_i y e3
     have:=gB h
     cases this
     simp only[ZT,ZA,e3];exact k
    ·cases h
  ·cases h
 |store n x y=>
  simp only[cH]at h
  simp only[aj]
  split at h
  ·rename_i t b o l' e1 e2
   rw[e1,e2]
   split at h
   ·rename_i b' l e3
    simp only[e3]
    obtain⟨h1,h⟩:=ox h
    simp only[Z3]at h1
    replace h:=ij h
    split at h
    case h_2=>cases h
    rename_i aw e4
    cases h
    rw[← A7 e4]at k
    exact⟨hp,ZM h1.1.1,h1.1.2,Z9 h1.2,k⟩
   ·cases h
  ·cases h
 |jw x=>
  simp only[cH]at h
  simp only[aj]
  split at h
  ·rename_i e;rw[e];cases h;exact k
  ·rename_i e;rw[e];cases h;exact k
  ·cases h
 |bin op x y=>
  simp only[cH]at h
  simp only[aj]
  split at h
  ·rename_i a b e1 e2
   rw[e1,e2]
   split at h
   ·rename_i p' r e3;cases h;exact Q7 e3 hp k
   ·cases h
  ·cases h
 |gz neg q x y=>
  simp only[cH]at h
  simp only[aj]
  split at h
  ·rename_i b e;rw[e];cases h;exact k
  ·cases h
 |eqs neg ks x y=>
  simp only[cH]at h
  simp only[aj]
  split at h
  ·rename_i xs ys e1 e2
   rw[e1,e2]
   split at h
   ·rename_i b e;simp only[e];cases h;exact k
   ·cases h
  ·cases h
 |un op x=>
  simp only[cH]at h
  simp only[aj]
  split at h
  ·rename_i a e1
   rw[e1]
   split at h
   ·rename_i r e;simp only[e];cases h;exact k
   ·cases h
  ·cases h
 |kj q x=>
  simp only[cH]at h
  simp only[aj]
  split at h
  ·rename_i e;rw[e];cases h;exact k
  ·cases h
 |nU x=>
  simp only[cH]at h
  simp only[aj]
  split at h
  ·rename_i e;rw[e];cases h;exact k
  ·cases h
 |kK t x=>simp only[cH]at h;have:=gB h;cases this;exact k
 |fI fn first captured=>
  simp only[cH]at h
  simp only[aj]
  split at h
  ·rename_i e1 e2;rw[e1,e2];cases h;exact k
  ·split at h
   ·cases h;first|(simp only[*];done)|(simp only[*];exact k)
   ·cases h
 |slice af x lo hi=>
  simp only[cH]at h
  simp only[aj]
  split at h
  ·rename_i bT dM e1 e2
   rw[e1,e2]
   split at h
   ·rename_i nn e rows e3;simp only[e3];cases h;exact⟨hp.1,hp.2.1,hp.2.2.1,hp.2.2.2,k⟩
   ·cases h
  ·cases h
 |ig off x=>
  simp only[cH]at h
  simp only[aj]
  split at h
  ·rename_i e;rw[e];cases h;exact k
  ·rename_i e;rw[e];cases h;exact k
  ·cases h
 |field agg off n x=>
  simp only[cH]at h
  simp only[aj]
  split at h
  ·rename_i l e
   rw[e]
   obtain⟨h1,h⟩:=ox h
   refine⟨Z9 h1,?_⟩
   split at h
   ·have:=ij h;cases this;exact k
   ·split at h
    ·rename_i y e3
     have:=gB h
     cases this
     simp only[ZT,ZA,e3];exact k
    ·cases h
  ·cases h
 |er af x i=>
  simp only[cH]at h
  simp only[aj]
  split at h
  ·rename_i q j e1
   rw[e1]
   split at h
   ·rename_i e;simp only[e];cases h;exact⟨hp.1,hp.2.1,hp.2.2,k⟩
   ·rename_i e;simp only[e];cases h;exact⟨hp.1,hp.2.1,hp.2.2,k⟩
   ·rename_i e;simp only[e];cases h;exact⟨hp.1,hp.2,k⟩
   ·cases h
  ·cases h
 |gV n af x i=>
  simp only[cH]at h
  simp only[aj]
  split at h
  ·rename_i q j e1
   rw[e1]
   split at h
   ·rename_i e;simp only[e];cases h;exact⟨hp.1,hp.2,k⟩
   ·rename_i e;simp only[e];cases h;exact⟨hp.1,hp.2,k⟩
   ·cases h
  ·cases h
 |extract x i=>
  simp only[cH]at h
  simp only[aj]
  split at h
  ·rename_i xs e1
   rw[e1]
   split at h
   ·rename_i y e;simp only[e];have:=gB h;cases this;exact k
   ·cases h
  ·cases h
 |len s x=>
  cases s with
  |true=>
   simp only[cH]at h
   simp only[aj]
   split at h
   ·rename_i e;rw[e];cases h;exact k
   ·cases h
  |false=>
   simp only[cH]at h
   simp only[aj]
   split at h
   ·rename_i e;rw[e];cases h;exact k
   ·rename_i e;rw[e];cases h;exact k
   ·rename_i e;rw[e];cases h;exact fun _=>k
   ·rename_i e;rw[e];cases h;exact fun _=>k
   ·cases h
 |max2 x y=>
  simp only[cH]at h
  simp only[aj]
  split at h
  ·rename_i a b e1 e2
   rw[e1,e2]
   split at h
   ·rename_i r e;simp only[e];cases h;exact k
   ·cases h
  ·cases h
 |min2 x y=>
  simp only[cH]at h
  simp only[aj]
  split at h
  ·rename_i a b e1 e2
   rw[e1,e2]
   split at h
   ·rename_i r e;simp only[e];cases h;exact k
   ·cases h
  ·cases h
def cV(σ σ':Store):Prop:=(∀ t,aK σ t=aK σ' t)∧σ.Perm σ'
theorem cV.refl(σ:Store):cV σ σ:=⟨fun _=>rfl,.refl _⟩
theorem cV.symm{σ σ':Store}(h:cV σ σ'):cV σ' σ:=⟨fun t=>(h.1 t).symm,h.2.symm⟩
theorem cV.trans{a b c:Store}(h:cV a b)(k:cV b c):cV a c:=⟨fun t=>(h.1 t).trans (k.1 t),h.2.trans k.2⟩
theorem oB(t b:Nat)(x:cp)(σ:Store)(s:Nat):aK ((t,b,x)::σ) s=if t=s then some (b,x)else aK σ s:=by
 simp only[aK]
 cases h:Nat.beq t s with
 |true=>rw[if_pos (ZM h)];rfl
 |false=>rw[if_neg (fun e=>by subst e;simp[YO]at h)];rfl
theorem cV.cons{σ σ':Store}(e:Nat×Nat×cp)(h:cV σ σ'):cV (e::σ) (e::σ'):=by
 obtain⟨t,b,x⟩:=e
 exact⟨fun s=>by rw[oB,oB,h.1 s],h.2.cons _⟩
theorem cV.swap{t t' b b':Nat}{x x':cp}(h:t≠t')(σ:Store):cV ((t,b,x)::(t',b',x')::σ) ((t',b',x')::(t,b,x)::σ):=
 ⟨fun s=>by
  simp only[oB]
  by_cases h1:t=s
  ·by_cases h2:t'=s
   ·exact absurd (h1.trans h2.symm) h
   ·simp[h1,h2]
  ·by_cases h2:t'=s<;>simp[h1,h2],List.Perm.swap _ _ _⟩
theorem r3{t b:Nat}{x:cp}:∀ {σ:Store},aK σ t=some (b,x)→∀ b' x' s,aK (ck σ t b' x') s=if t=s then some (b',x')else aK σ s
 |[],h,_,_,_=>by cases h
 |(i,c,y)::σ,h,b',x',s=>by
  rw[oB]at h
  simp only[ck]
  cases hb:Nat.beq i t with
  |true=>
   obtain rfl:=ZM hb
   simp only[cond_true,oB]
   split<;>rfl
  |false=>
   have aR:i≠t:=fun e=>by subst e;simp[YO]at hb
   rw[if_neg aR]at h
   simp only[X9,oB,r3 h b' x' s]
   by_cases h1:i=s
   ·have:t≠s:=fun e=>aR (h1.trans e.symm)
    simp[h1,this]
   ·simp[h1]
theorem cV.ck{σ σ':Store}(h:cV σ σ'){t b:Nat}{x:cp}(hb:aK σ t=some (b,x))(b':Nat)(x':cp):cV (Sx.ck σ t b' x') (Sx.ck σ' t b' x'):=by
 have fV:aK σ' t=some (b,x):=(h.1 t).symm.trans hb
 refine⟨fun s=>by rw[r3 hb,r3 fV,h.1 s],?_⟩
 obtain⟨p,q,e,k⟩:=qq hb
 obtain⟨p',q',e',k'⟩:=qq fV
 rw[k,k']
 have hp:=h.2
 rw[e,e']at hp
 have h1:((t,b,x)::(p++q)).Perm ((t,b,x)::(p'++q')):=(List.perm_middle.symm.trans hp).trans Yq
 exact(List.perm_middle.trans ((h1.cons_inv).cons _)).trans List.perm_middle.symm
theorem Inv.perm{P:Program}[Glob P]{M:Mem}{w0:Base}{w:World}{σ σ':Store}(hI:Inv P M w0 σ w)(h:σ.Perm σ'):Inv P M w0 σ' w:=
 ⟨hI.os,hI.tape,hI.output,hI.size,hI.old,hI.dr,fun e he=>hI.st e (h.mem_iff.2 he),((h.map _).nodup_iff).1 hI.nd,hI.gl,hI.gw,hI.bm⟩
theorem atc{P:Program}[Glob P]{cfg:Nat→Nat}{d:Option Nat}{rg:ae}{σ:Store}{K:AV→Prop}{op:au}(hl:op.cls=0)(h:aC P cfg d rg σ K op):
  ∃ x,K x∧∀ (σ':Store) (K':AV→Prop),K' x→aC P cfg d rg σ' K' op:=by
 cases op with
 |box t x=>exact h.elim
 |alloc t z=>exact h.elim
 |store n x y=>exact h.elim
 |append t n k z x y=>exact h.elim
 |exts op ty ti args=>exact h.elim
 |panic x=>exact h.elim
 |b8 op ty ti args=>obtain⟨r,hp,hk⟩:=h;exact⟨r,hk,fun σ' K' h=>⟨r,hp,h⟩⟩
 |call f args=>obtain⟨r,hp,hk⟩:=h;exact⟨r,hk,fun σ' K' h=>⟨r,hp,h⟩⟩
 |dp f args=>
  simp only[aC]at h
  simp only[aC,aj]
  split at h
  ·rename_i g b c he
   obtain⟨bI,r,hp,hk⟩:=h
   (try rw[he])
   exact⟨r,hk,fun σ' K' h=>⟨bI,r,hp,h⟩⟩
  ·rename_i g b c he
   obtain⟨bI,r,hp,hk⟩:=h
   (try rw[he])
   exact⟨r,hk,fun σ' K' h=>⟨bI,r,hp,h⟩⟩
  ·exact h.elim
 |bh t af parts=>
  simp only[aC]at h
  simp only[aC,aj]
  split at h
  ·rename_i rows he
   (try rw[he])
   obtain⟨hn,h⟩:=h
   split at h
   ·rename_i e;exact⟨_,h,fun σ' K' hk=>⟨hn,by first|exact hk|(rw[e];exact hk)|(simp[e];exact hk)⟩⟩
   ·rename_i e;exact⟨_,h,fun σ' K' hk=>⟨hn,by first|exact hk|(rw[e];exact hk)|(simp[e];exact hk)⟩⟩
   ·exact h.elim
  ·exact h.elim
 |len s x=>
  cases s<;>simp only[aC]at h<;>simp only[aC]
  ·split at h
   ·rename_i b n c he;(try rw[he]);exact⟨_,h,fun σ' K' hk=>hk⟩
   ·rename_i tg b o n c he;(try rw[he]);exact⟨_,h,fun σ' K' hk=>hk⟩
   ·rename_i nn ez rows he;(try rw[he]);exact⟨_,h,fun σ' K' hk=>hk⟩
   ·rename_i ez tg b u c rows he;(try rw[he]);exact⟨_,h,fun σ' K' hk=>hk⟩
   ·exact h.elim
  ·split at h
   ·rename_i s he;(try rw[he]);exact⟨_,h,fun σ' K' hk=>hk⟩
   ·exact h.elim
 |mv x=>exact⟨_,h,fun σ' K' hk=>hk⟩
 |kK t x=>exact⟨_,h,fun σ' K' hk=>hk⟩
 |pick c x y=>
  simp only[aC,aj]at h
  simp only[aC,aj]
  split at h
  ·rename_i t he;(try rw[he]);exact⟨_,h,fun σ' K' hk=>hk⟩
  ·exact h.elim
 |build z parts=>
  simp only[aC,aj]at h
  simp only[aC,aj]
  split at h
  ·rename_i t he;(try rw[he]);exact⟨_,h,fun σ' K' hk=>hk⟩
  ·exact h.elim
 |load g n x=>cases hl
 |jw x=>
  simp only[aC,aj]at h
  simp only[aC,aj]
  split at h<;>first|exact h.elim|(rename_i he;(try rw[he]);exact⟨_,h,fun σ' K' hk=>hk⟩)
 |bin op x y=>
  simp only[aC,aj]at h
  simp only[aC,aj]
  split at h
  ·rename_i u v hu hv
   (try rw[hu,hv])
   obtain⟨z,hz,nf⟩:=Ni h
   exact⟨.v z,hz,fun σ' K' hk=>nf _ hk⟩
  ·exact h.elim
 |gz n k x y=>
  simp only[aC,aj]at h
  simp only[aC,aj]
  split at h
  ·rename_i t he;(try rw[he]);exact⟨_,h,fun σ' K' hk=>hk⟩
  ·exact h.elim
 |eqs n k x y=>
  simp only[aC,aj]at h
  simp only[aC,aj]
  split at h
  ·rename_i xs ys h1 h2
   (try rw[h1,h2])
   split at h
   ·rename_i t he;(try simp only[he]);exact⟨_,h,fun σ' K' hk=>hk⟩
   ·exact h.elim
  ·exact h.elim
 |un op x=>
  simp only[aC,aj]at h
  simp only[aC,aj]
  split at h
  ·rename_i u hu
   (try rw[hu])
   split at h
   ·rename_i t he;(try simp only[he]);exact⟨_,h,fun σ' K' hk=>hk⟩
   ·exact h.elim
  ·exact h.elim
 |kj k x=>
  simp only[aC,aj]at h
  simp only[aC,aj]
  split at h
  ·rename_i k' n he;(try rw[he]);exact⟨_,h,fun σ' K' hk=>hk⟩
  ·exact h.elim
 |nU x=>
  simp only[aC,aj]at h
  simp only[aC,aj]
  split at h
  ·rename_i s he;(try rw[he]);exact⟨_,h,fun σ' K' hk=>hk⟩
  ·exact h.elim
 |fI fn first captured=>
  simp only[aC,aj]at h
  simp only[aC,aj]
  split at h
  ·rename_i u v h1 h2;(try rw[h1,h2]);exact⟨_,h,fun σ' K' hk=>hk⟩
  ·split at h
   ·exact⟨_,h,fun σ' K' hk=>hk⟩
   ·exact h.elim
 |slice af x lo hi=>
  simp only[aC,aj]at h
  simp only[aC,aj]
  split at h
  ·rename_i bT dM h1 h2
   (try rw[h1,h2])
   split at h
   ·rename_i nn e rows he;(try simp only[he]);exact⟨_,h.2.2.2.2,fun σ' K' hk=>⟨h.1,h.2.1,h.2.2.1,h.2.2.2.1,hk⟩⟩
   ·rename_i e tg b u c rows he;(try simp only[he]);exact⟨_,h.2.2.2.2,fun σ' K' hk=>⟨h.1,h.2.1,h.2.2.1,h.2.2.2.1,hk⟩⟩
   ·rename_i he;(try simp only[he]);exact⟨_,h.2.2,fun σ' K' hk=>⟨h.1,h.2.1,hk⟩⟩
   ·exact h.elim
  ·exact h.elim
 |ig off x=>
  simp only[aC,aj]at h
  simp only[aC,aj]
  split at h<;>first|exact h.elim|(rename_i he;(try rw[he]);exact⟨_,h,fun σ' K' hk=>hk⟩)
 |field g o n x=>
  simp only[aC,aj]at h
  simp only[aC,aj]
  split at h
  ·rename_i l hl
   (try rw[hl])
   obtain⟨aE,h⟩:=h
   cases g with
   |true=>simp only[Ze]at h ⊢;exact⟨_,h,fun σ' K' hk=>⟨aE,hk⟩⟩
   |false=>
    simp only[ZT,ZA]at h ⊢
    split at h
    ·rename_i y hy;(try rw[hy]);exact⟨_,h,fun σ' K' hk=>⟨aE,hk⟩⟩
    ·exact h.elim
  ·exact h.elim
 |er af x i=>
  simp only[aC,aj]at h
  simp only[aC,aj]
  split at h
  ·rename_i k j hi
   (try rw[hi])
   split at h
   ·rename_i nn e rows he;(try simp only[he]);exact⟨_,h.2.2.2,fun σ' K' hk=>⟨h.1,h.2.1,h.2.2.1,hk⟩⟩
   ·rename_i e tg b u c rows he;(try simp only[he]);exact⟨_,h.2.2.2,fun σ' K' hk=>⟨h.1,h.2.1,h.2.2.1,hk⟩⟩
   ·rename_i tg b o n c he;(try simp only[he]);exact⟨_,h.2.2,fun σ' K' hk=>⟨h.1,h.2.1,hk⟩⟩
   ·exact h.elim
  ·exact h.elim
 |gV n af x i=>
  simp only[aC,aj]at h
  simp only[aC,aj]
  split at h
  ·rename_i k j hi
   (try rw[hi])
   split at h
   ·rename_i tg b o he;(try simp only[he]);exact⟨_,h.2.2,fun σ' K' hk=>⟨h.1,h.2.1,hk⟩⟩
   ·rename_i l he;(try simp only[he]);exact⟨_,h.2.2,fun σ' K' hk=>⟨h.1,h.2.1,hk⟩⟩
   ·rename_i g o he;(try simp only[he]);obtain⟨l,ha,h0,h1,h2,h3⟩:=h;exact⟨_,h3,fun σ' K' hk=>⟨l,ha,h0,h1,h2,hk⟩⟩
   ·exact h.elim
  ·exact h.elim
 |idxs x i=>
  simp only[aC,aj]at h
  simp only[aC,aj]
  split at h
  ·rename_i k j s h1 h2
   (try rw[h1,h2])
   obtain⟨aE,h⟩:=h
   exact⟨_,h,fun σ' K' hk=>⟨aE,hk⟩⟩
  ·exact h.elim
 |extract x i=>
  simp only[aC,aj]at h
  simp only[aC,aj]
  split at h
  ·rename_i xs he
   (try rw[he])
   split at h
   ·rename_i y hy;(try simp only[hy]);exact⟨_,h,fun σ' K' hk=>hk⟩
   ·exact h.elim
  ·rename_i xs he
   (try rw[he])
   split at h
   ·rename_i y hy;(try simp only[hy]);exact⟨_,h,fun σ' K' hk=>hk⟩
   ·exact h.elim
  ·exact h.elim
 |max2 x y=>
  simp only[aC,aj]at h
  simp only[aC,aj]
  split at h
  ·rename_i u v h1 h2
   (try rw[h1,h2])
   split at h
   ·rename_i t he;(try simp only[he]);exact⟨_,h,fun σ' K' hk=>hk⟩
   ·exact h.elim
  ·exact h.elim
 |min2 x y=>
  simp only[aC,aj]at h
  simp only[aC,aj]
  split at h
  ·rename_i u v h1 h2
   (try rw[h1,h2])
   split at h
   ·rename_i t he;(try simp only[he]);exact⟨_,h,fun σ' K' hk=>hk⟩
   ·exact h.elim
  ·exact h.elim
end Go.Sx
