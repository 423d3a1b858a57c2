/-
  The layer Sx, twelfth part: single steps that are computed.
-/
import Derived.Test.YthdeaajdmdmfnaaGreatDoorSxDraw
set_option linter.unusedVariables false
set_option linter.unusedSimpArgs false
set_option linter.unusedSectionVars false
namespace Go.Sx
open Go.RowKit
def fo{α:Type}(x:AV)(k:AV→Option α):Option α:=
 match x with
 | .v (.int q n)=>k (.v (.int q n))
 | .v (.bool b)=>k (.v (.bool b))
 | .v (.string s)=>k (.v (.string s))
 | .v y=>k (.v y)
 | .any=>k .any
 | .agg xs=>k (.agg xs)
 | .bo xs=>k (.bo xs)
 | .sl nn e rows=>k (.sl nn e rows)
 | .own e t b u c rows=>k (.own e t b u c rows)
 | .ms t b o n c=>k (.ms t b o n c)
 | .pc l=>k (.pc l)
 | .dz t x=>k (.dz t x)
 | .lp t b o=>k (.lp t b o)
 | .bD t b=>k (.bD t b)
 | .ai q=>k (.ai q)
 | .cl f a c=>k (.cl f a c)
 | .fl e rows=>k (.fl e rows)
theorem iN{α:Type}{x:AV}{k:AV→Option α}{r:α}(h:fo x k=some r):k x=some r:=by
 unfold fo at h
 split at h<;>first|exact h|cases h
def j8{α:Type}:List AV→(List AV→Option α)→Option α
 |[],k=>k []
 |x::l,k=>fo x fun y=>j8 l fun l'=>k (y::l')
theorem jJ{α:Type}:∀ {l:List AV} {k:List AV→Option α} {r:α},j8 l k=some r→k l=some r
 |[],_,_,h=>h
 |x::l,k,r,h=>jJ (l:=l) (k:=fun l'=>k (x::l')) (iN (k:=fun y=>j8 l fun l'=>k (y::l')) h)
def zy{α:Type}:List (List AV)→(List (List AV)→Option α)→Option α
 |[],k=>k []
 |x::l,k=>j8 x fun y=>zy l fun l'=>k (y::l')
theorem uw{α:Type}:∀ {l:List (List AV)} {k:List (List AV)→Option α} {r:α},zy l k=some r→k l=some r
 |[],_,_,h=>h
 |x::l,k,r,h=>uw (l:=l) (k:=fun l'=>k (x::l')) (jJ (k:=fun y=>zy l fun l'=>k (y::l')) h)
def tP:Store→Nat→Nat→aZ→Option Store
 |[],_,_,_=>none
 |(i,b',x')::r,t,b,x=>bif Nat.beq i t then some ((t,b,x)::r)else match tP r t b x with
  |some r'=>some ((i,b',x')::r')
  |none=>none
theorem Bt:∀ {σ:Store} {t b:Nat} {x:aZ} {σ':Store},tP σ t b x=some σ'→du σ t b x=σ'
 |[],_,_,_,_,h=>by cases h
 |(i,b',x')::r,t,b,x,σ',h=>by
  simp only[tP]at h
  simp only[du]
  cases hb:Nat.beq i t with
  |true=>grind
  |false=>
   rw[hb]at h
   simp at h ⊢
   split at h
   ·rename_i r' hr;cases h;rw[Bt hr]
   grind
def B8(op:BinOp):Value→Value→Option (Prop×Value)
 | .int k a,.int k' b=>
  match op with
  | .add=>bif k == k' then some (True,.int k (k.wrap (a+b)))else none
  | .sub=>bif k == k' then some (True,.int k (k.wrap (a-b)))else none
  | .mul=>bif k == k' then some (True,.int k (k.wrap (a * b)))else none
  | .quo=>bif k == k' then some (b≠0,.int k (k.wrap (a.tdiv b)))else none
  | .rem=>bif k == k' then some (b≠0,.int k (a.tmod b))else none
  | .eql=>bif k == k' then some (True,.bool (decide (a=b)))else none
  | .neq=>bif k == k' then some (True,.bool (!decide (a=b)))else none
  | .lss=>bif k == k' then some (True,.bool (decide (a<b)))else none
  | .leq=>bif k == k' then some (True,.bool (decide (a≤b)))else none
  | .gtr=>bif k == k' then some (True,.bool (decide (b<a)))else none
  | .geq=>bif k == k' then some (True,.bool (decide (b≤a)))else none
  | .and=>bif k == k' then some (True,.int k (bits .and k a b))else none
  | .or=>bif k == k' then some (True,.int k (bits .or k a b))else none
  | .xor=>bif k == k' then some (True,.int k (bits .xor k a b))else none
  | .andNot=>bif k == k' then some (True,.int k (bits .andNot k a b))else none
  | .shl=>some (0≤b∧b≤k.bits,.int k (k.wrap (a * 2 ^ b.toNat)))
  | .shr=>some (0≤b∧b≤k.bits,.int k (a / 2 ^ b.toNat))
 | .string a,.string b=>
  match op with
  | .add=>some (a.size+b.size≤9223372036854775807,.string (a++b))
  | .eql=>some (True,.bool (decide (a=b)))
  | .neq=>some (True,.bool (!decide (a=b)))
  | .lss=>some (True,.bool (Op.bytesLess a.toList b.toList))
  | .leq=>some (True,.bool (Op.bytesLess a.toList b.toList || decide (a=b)))
  | .gtr=>some (True,.bool (!(Op.bytesLess a.toList b.toList || decide (a=b))))
  | .geq=>some (True,.bool (!Op.bytesLess a.toList b.toList))
  |_=>none
 |_,_=>none
def c6(cfg:Nat→Nat)(d:Option Nat)(rg:ag)(σ:Store):ax→Option (Prop×AV×Store)
 | .mv x=>fo (ev rg x) fun v=>some (True,v,σ)
 | .pick c a b=>match ev rg c with
  | .v (.bool true)=>fo (ev rg a) fun v=>some (True,v,σ)
  | .v (.bool false)=>fo (ev rg b) fun v=>some (True,v,σ)
  |_=>none
 | .build z parts=>match pg (z.map .v) (lO rg parts)with
  |some l=>j8 l fun l=>some (True,.agg l,σ)
  |none=>none
 | .dF _ ah parts=>match rowsOf ah (aL rg parts)with
  |some rows=>match cfg (d.getD 0)with
   |0=>zy rows fun rows=>some (rows.length≤1000000,.sl true ah rows,σ)
   |3=>zy rows fun rows=>some (rows.length≤1000000,.fl ah rows,σ)
   |_=>none
  |none=>none
 | .load agg n x=>match ev rg x with
  | .lp t b o=>match aV σ t with
   |some (b',.cells l)=>match agg with
    |true=>bif Nat.ble (o+n) l.length then j8 ((l.drop o).take n) (fun l2=>some (b=b',.agg l2,σ))else none
    |false=>match l[o]? with
     |some y=>fo y fun v=>some (b=b',v,σ)
     |none=>none
   |_=>none
  | .pc l=>match agg with
   |true=>bif Nat.ble n l.length then j8 (l.take n) (fun l2=>some (True,.agg l2,σ))else none
   |false=>match l[0]? with
    |some y=>fo y fun v=>some (True,v,σ)
    |none=>none
  |_=>none
 | .store n x y=>match ev rg x,(ev rg y).cells? with
  | .lp t b o,some l'=>match aV σ t with
   |some (b',.cells l)=>bif Nat.beq l'.length n && l'.all AV.one && Nat.ble (o+n) l.length then j8 (over l o l') (fun l2=>match tP σ t b (.cells l2)with
    |some σ'=>some (b=b',.v undef,σ')
    |none=>none)else none
   |_=>none
  |_,_=>none
 | .mo x=>match ev rg x with
  | .lp t b o=>some (True,.lp t b o,σ)
  | .pc l=>some (True,.pc l,σ)
  |_=>none
 | .bin op x y=>match ev rg x,ev rg y with
  | .v a,.v b=>match B8 op a b with
   |some (p,r)=>some (p,.v r,σ)
   |none=>none
  |_,_=>none
 | .ji neg k x y=>match rS k (ev rg x) (ev rg y)with
  |some b=>some (True,.v (.bool (b ^^ neg)),σ)
  |none=>none
 | .eqs neg ks x y=>match(ev rg x).iJ,(ev rg y).iJ with
  |some xs,some ys=>match mI ks xs ys with
   |some b=>some (True,.v (.bool (b ^^ neg)),σ)
   |none=>none
  |_,_=>none
 | .un op x=>match ev rg x with
  | .v a=>match EP op a with
   |some r=>some (True,.v r,σ)
   |none=>none
  |_=>none
 | .lM k x=>match ev rg x with
  | .v (.int _ n)=>some (True,.v (.int k (k.wrap n)),σ)
  |_=>none
 | .mG x=>match ev rg x with
  | .v (.string s)=>some (True,.v (.string s),σ)
  |_=>none
 | .nh t x=>fo (ev rg x) fun v=>some (True,.dz t v,σ)
 | .ng fn first captured=>match bP (aL rg first),bP (aL rg captured)with
  |some a,some c=>some (True,.v (.func fn a.toArray c.toArray),σ)
  |_,_=>match fn with
   | .func f=>some (True,.cl f (aL rg first) (aL rg captured),σ)
   |_=>none
 | .slice ah x lo hi=>match iy (lo.map (ev rg)),iy (hi.map (ev rg))with
  |some lo,some hi=>match ev rg x with
   | .sl nn e rows=>some (e=ah∧0≤lo.getD 0∧lo.getD 0≤hi.getD rows.length∧hi.getD rows.length≤rows.length,.sl nn ah ((rows.take (hi.getD rows.length).toNat).drop (lo.getD 0).toNat),σ)
   |_=>none
  |_,_=>none
 | .aY off x=>match ev rg x with
  | .lp t b o=>some (True,.lp t b (o+off),σ)
  | .pc l=>some (True,.pc (l.drop off),σ)
  |_=>none
 | .field agg off n x=>match(ev rg x).iJ with
  |some l=>bif Nat.ble (off+n) l.length then(match agg with
   |true=>j8 ((l.drop off).take n) fun l2=>some (True,.agg l2,σ)
   |false=>match l[off]? with
    |some y=>fo y fun v=>some (True,v,σ)
    |none=>none)else none
  |none=>none
 | .fe ah x i=>match ev rg i with
  | .v (.int _ i)=>match ev rg x with
   | .sl _ e rows=>some (e=ah∧0≤i∧i<rows.length,.pc (rows.getD i.toNat []),σ)
   | .own e _ _ _ _ rows=>some (e=ah∧0≤i∧i<rows.length,.pc (rows.getD i.toNat []),σ)
   | .ms t b o n _=>some (0≤i∧i<n,.lp t b (o+i.toNat * ah),σ)
   |_=>none
  |_=>none
 | .me n ah x i=>match ev rg i with
  | .v (.int _ i)=>match ev rg x with
   | .lp t b o=>some (0≤i∧i<n,.lp t b (o+i.toNat * ah),σ)
   | .pc l=>some (0≤i∧i<n,.pc (l.drop (i.toNat * ah)),σ)
   |_=>none
  |_=>none
 | .extract x i=>match ev rg x with
  | .bo xs=>match xs[i]? with
   |some y=>fo y fun v=>some (True,v,σ)
   |none=>none
  |_=>none
 | .len true x=>match ev rg x with
  | .v (.string s)=>some (True,.v (.int .i64 s.size),σ)
  |_=>none
 | .len false x=>match ev rg x with
  | .v (.slice _ n _)=>some (True,.v (.int .i64 n),σ)
  | .ms _ _ _ n _=>some (True,.v (.int .i64 n),σ)
  | .sl _ _ rows=>some (True,.v (.int .i64 rows.length),σ)
  | .own _ _ _ _ _ rows=>some (True,.v (.int .i64 rows.length),σ)
  |_=>none
 | .max2 x y=>match ev rg x,ev rg y with
  | .v a,.v b=>match s9 false a b with
   |some r=>some (True,.v r,σ)
   |none=>none
  |_,_=>none
 | .min2 x y=>match ev rg x,ev rg y with
  | .v a,.v b=>match s9 true a b with
   |some r=>some (True,.v r,σ)
   |none=>none
  |_,_=>none
 |_=>none
theorem Wf{op:BinOp}{a b:Value}{p:Prop}{r:Value}{K:Value→Prop}(h:B8 op a b=some (p,r))(hp:p)(k:K r):lE op a b K:=by
 unfold B8 at h
 split at h
 ·rename_i q x q' y
  by_cases e:q=q'
  ·subst e
   cases op<;>simp only[beq_self_eq_true,Zc,ZY,YW]at h<;>obtain⟨rfl,rfl⟩:=h<;>simp only[lE]
   all_goals grind
  ·have e':(q == q')=false:=by grind
   cases op<;>simp only[e',YD,reduceCtorEq,ZY,YW]at h<;>simp only[lE]
   case shl=>grind
   grind
 ·cases op<;>simp only[reduceCtorEq]at h<;>simp only[lE]
  all_goals(grind)
 grind
theorem sZ{α:Type}{c:Bool}{o:Option α}{r:α}(h:(bif c then o else none)=some r):c=true∧o=some r:=by
 cases c with
 |true=>exact⟨rfl,h⟩
 |false=>cases h
theorem Co{P:Program}[Glob P]{cfg:Nat→Nat}{d:Option Nat}{rg:ag}{σ σ':Store}{op:ax}{p:Prop}{v:AV}{K:AV→Store→Prop}{E:List PanicEntry→Store→Prop}
  (h:c6 cfg d rg σ op=some (p,v,σ')) (hp:p) (k:K v σ'):aj P cfg d rg σ K E op:=by
 cases op with
 |mv x=>simp only[c6]at h;have:=iN h;cases this;exact k
 |pick c x y=>
  simp only[c6]at h
  simp only[aj]
  split at h
  ·rename_i e;rw[e];have:=iN h;grind
  ·rename_i e;rw[e];have:=iN h;grind
  grind
 |box t x=>cases h
 |alloc t z=>cases h
 |append t n k z x y=>cases h
 |call f args=>cases h
 |fD f args=>cases h
 |idxs x y=>cases h
 |cu op ty ti args=>cases h
 |exts op ty ti args=>cases h
 |panic x=>cases h
 |build z parts=>
  simp only[c6]at h
  simp only[aj]
  split at h
  ·rename_i l e;rw[e];have:=jJ h;grind
  grind
 |dF t ah parts=>
  simp only[c6]at h
  simp only[aj]
  split at h
  ·rename_i rows e
   rw[e]
   split at h
   ·rename_i e2;have:=uw h;cases this;exact⟨hp,by simp only[e2];exact k⟩
   ·rename_i e2;have:=uw h;cases this;exact⟨hp,by simp only[e2];exact k⟩
   grind
  grind
 |load agg n x=>
  simp only[c6]at h
  simp only[aj]
  split at h
  ·rename_i t b o e
   rw[e]
   split at h
   ·rename_i b' l e2
    simp only[e2]
    split at h
    ·obtain⟨h1,h⟩:=sZ h
     have:=jJ h
     cases this
     exact⟨hp,by simp only[YX];exact⟨ZF h1,k⟩⟩
    ·split at h
     ·rename_i y e3
      have:=iN h
      cases this
      exact⟨hp,by simp only[ZU,YV,e3];exact k⟩
     ·cases h
   ·cases h
  ·rename_i l e
   rw[e]
   split at h
   ·obtain⟨h1,h⟩:=sZ h
    have:=jJ h
    cases this
    simp only[YX];exact⟨ZF h1,k⟩
   ·split at h
    ·rename_i y e3
     have:=iN h
     cases this
     simp only[ZU,YV,e3];exact k
    ·cases h
  ·cases h
 |store n x y=>
  simp only[c6]at h
  simp only[aj]
  split at h
  ·rename_i t b o l' e1 e2
   rw[e1,e2]
   split at h
   ·rename_i b' l e3
    simp only[e3]
    obtain⟨h1,h⟩:=sZ h
    simp only[Z8]at h1
    replace h:=jJ h
    split at h
    case h_2=>cases h
    rename_i aJ e4
    cases h
    rw[← Bt e4]at k
    exact⟨hp,Z0 h1.1.1,h1.1.2,ZF h1.2,k⟩
   ·cases h
  ·cases h
 |mo x=>
  simp only[c6]at h
  simp only[aj]
  split at h
  ·rename_i e;rw[e];cases h;exact k
  ·rename_i e;rw[e];cases h;exact k
  ·cases h
 |bin op x y=>
  simp only[c6]at h
  simp only[aj]
  split at h
  ·rename_i a b e1 e2
   rw[e1,e2]
   split at h
   ·rename_i p' r e3;cases h;exact Wf e3 hp k
   ·cases h
  ·cases h
 |ji neg q x y=>
  simp only[c6]at h
  simp only[aj]
  split at h
  ·rename_i b e;rw[e];cases h;exact k
  ·cases h
 |eqs neg ks x y=>
  simp only[c6]at h
  simp only[aj]
  split at h
  ·rename_i xs ys e1 e2
   rw[e1,e2]
   split at h
   ·rename_i b e;simp only[e];cases h;exact k
   ·cases h
  ·cases h
 |un op x=>
  simp only[c6]at h
  simp only[aj]
  split at h
  ·rename_i a e1
   rw[e1]
   split at h
   ·rename_i r e;simp only[e];cases h;exact k
   ·cases h
  ·cases h
 |lM q x=>
  simp only[c6]at h
  simp only[aj]
  split at h
  ·rename_i e;rw[e];cases h;exact k
  ·cases h
 |mG x=>
  simp only[c6]at h
  simp only[aj]
  split at h
  ·rename_i e;rw[e];cases h;exact k
  ·cases h
 |nh t x=>simp only[c6]at h;have:=iN h;cases this;exact k
 |ng fn first captured=>
  simp only[c6]at h
  simp only[aj]
  split at h
  ·rename_i e1 e2;rw[e1,e2];cases h;exact k
  ·split at h
   ·cases h;first|(simp only[*];done)|(simp only[*];exact k)
   ·cases h
 |slice ah x lo hi=>
  simp only[c6]at h
  simp only[aj]
  split at h
  ·rename_i ck ek e1 e2
   rw[e1,e2]
   split at h
   ·rename_i nn e rows e3;simp only[e3];cases h;exact⟨hp.1,hp.2.1,hp.2.2.1,hp.2.2.2,k⟩
   ·cases h
  ·cases h
 |aY off x=>
  simp only[c6]at h
  simp only[aj]
  split at h
  ·rename_i e;rw[e];cases h;exact k
  ·rename_i e;rw[e];cases h;exact k
  ·cases h
 |field agg off n x=>
  simp only[c6]at h
  simp only[aj]
  split at h
  ·rename_i l e
   rw[e]
   obtain⟨h1,h⟩:=sZ h
   refine⟨ZF h1,?_⟩
   split at h
   ·have:=jJ h;cases this;exact k
   ·split at h
    ·rename_i y e3
     have:=iN h
     cases this
     simp only[ZU,YV,e3];exact k
    ·cases h
  ·cases h
 |fe ah x i=>
  simp only[c6]at h
  simp only[aj]
  split at h
  ·rename_i q j e1
   rw[e1]
   split at h
   ·rename_i e;simp only[e];cases h;exact⟨hp.1,hp.2.1,hp.2.2,k⟩
   ·rename_i e;simp only[e];cases h;exact⟨hp.1,hp.2.1,hp.2.2,k⟩
   ·rename_i e;simp only[e];cases h;exact⟨hp.1,hp.2,k⟩
   ·cases h
  ·cases h
 |me n ah x i=>
  simp only[c6]at h
  simp only[aj]
  split at h
  ·rename_i q j e1
   rw[e1]
   split at h
   ·rename_i e;simp only[e];cases h;exact⟨hp.1,hp.2,k⟩
   ·rename_i e;simp only[e];cases h;exact⟨hp.1,hp.2,k⟩
   ·cases h
  ·cases h
 |extract x i=>
  simp only[c6]at h
  simp only[aj]
  split at h
  ·rename_i xs e1
   rw[e1]
   split at h
   ·rename_i y e;simp only[e];have:=iN h;cases this;exact k
   ·cases h
  ·cases h
 |len s x=>
  cases s with
  |true=>
   simp only[c6]at h
   simp only[aj]
   split at h
   ·rename_i e;rw[e];cases h;exact k
   ·cases h
  |false=>
   simp only[c6]at h
   simp only[aj]
   split at h
   ·rename_i e;rw[e];cases h;exact k
   ·rename_i e;rw[e];cases h;exact k
   ·rename_i e;rw[e];cases h;exact fun _=>k
   ·rename_i e;rw[e];cases h;exact fun _=>k
   ·cases h
 |max2 x y=>
  simp only[c6]at h
  simp only[aj]
  split at h
  ·rename_i a b e1 e2
   rw[e1,e2]
   split at h
   ·rename_i r e;simp only[e];cases h;exact k
   ·cases h
  ·cases h
 |min2 x y=>
  simp only[c6]at h
  simp only[aj]
  split at h
  ·rename_i a b e1 e2
   rw[e1,e2]
   split at h
   ·rename_i r e;simp only[e];cases h;exact k
   ·cases h
  ·cases h
def cE(σ σ':Store):Prop:=(∀ t,aV σ t=aV σ' t)∧σ.Perm σ'
theorem cE.refl(σ:Store):cE σ σ:=⟨fun _=>rfl,.refl _⟩
theorem cE.symm{σ σ':Store}(h:cE σ σ'):cE σ' σ:=⟨fun t=>(h.1 t).symm,h.2.symm⟩
theorem cE.trans{a b c:Store}(h:cE a b)(k:cE b c):cE a c:=⟨fun t=>(h.1 t).trans (k.1 t),h.2.trans k.2⟩
theorem na(t b:Nat)(x:aZ)(σ:Store)(s:Nat):aV ((t,b,x)::σ) s=if t=s then some (b,x)else aV σ s:=by
 simp only[aV]
 simp_all
theorem cE.cons{σ σ':Store}(e:Nat×Nat×aZ)(h:cE σ σ'):cE (e::σ) (e::σ'):=by
 obtain⟨t,b,x⟩:=e
 exact⟨fun s=>by rw[na,na,h.1 s],h.2.cons _⟩
theorem cE.swap{t t' b b':Nat}{x x':aZ}(h:t≠t')(σ:Store):cE ((t,b,x)::(t',b',x')::σ) ((t',b',x')::(t,b,x)::σ):=
 ⟨fun s=>by
  simp only[na]
  grind,List.Perm.swap _ _ _⟩
theorem x6{t b:Nat}{x:aZ}:∀ {σ:Store},aV σ t=some (b,x)→∀ b' x' s,aV (du σ t b' x') s=if t=s then some (b',x')else aV σ s
 |[],h,_,_,_=>by cases h
 |(i,c,y)::σ,h,b',x',s=>by
  rw[na]at h
  simp only[du]
  cases hb:Nat.beq i t with
  |true=>
   obtain rfl:=Z0 hb
   simp only[Zc,na]
   grind
  |false=>
   have aE:i≠t:=fun e=>by simp_all
   rw[Z7 aE]at h
   simp only[YD,na,x6 h b' x' s]
   grind
theorem cE.du{σ σ':Store}(h:cE σ σ'){t b:Nat}{x:aZ}(hb:aV σ t=some (b,x))(b':Nat)(x':aZ):cE (Sx.du σ t b' x') (Sx.du σ' t b' x'):=by
 have mP:aV σ' t=some (b,x):=(h.1 t).symm.trans hb
 refine⟨fun s=>by rw[x6 hb,x6 mP,h.1 s],?_⟩
 obtain⟨p,q,e,k⟩:=wg hb
 obtain⟨p',q',e',k'⟩:=wg mP
 rw[k,k']
 have hp:=h.2
 rw[e,e']at hp
 have h1:((t,b,x)::(p++q)).Perm ((t,b,x)::(p'++q')):=(List.perm_middle.symm.trans hp).trans List.perm_middle
 exact(List.perm_middle.trans ((h1.cons_inv).cons _)).trans List.perm_middle.symm
theorem Inv.perm{P:Program}[Glob P]{M:Mem}{w0:Base}{w:World}{σ σ':Store}(hI:Inv P M w0 σ w)(h:σ.Perm σ'):Inv P M w0 σ' w:=
 ⟨hI.os,hI.tape,hI.output,hI.size,hI.old,hI.bL,fun e he=>hI.st e (h.mem_iff.2 he),((h.map _).nodup_iff).1 hI.nd,hI.gl,hI.gw,hI.bm⟩
theorem ajl{P:Program}[Glob P]{cfg:Nat→Nat}{d:Option Nat}{rg:ag}{σ:Store}{K:AV→Prop}{op:ax}(hl:op.cls=0)(h:aK P cfg d rg σ K op):
  ∃ x,K x∧∀ (σ':Store) (K':AV→Prop),K' x→aK P cfg d rg σ' K' op:=by
 cases op with
 |box t x=>exact h.elim
 |alloc t z=>exact h.elim
 |store n x y=>exact h.elim
 |append t n k z x y=>exact h.elim
 |exts op ty ti args=>exact h.elim
 |panic x=>exact h.elim
 |cu op ty ti args=>obtain⟨r,hp,hk⟩:=h;exact⟨r,hk,fun σ' K' h=>⟨r,hp,h⟩⟩
 |call f args=>obtain⟨r,hp,hk⟩:=h;exact⟨r,hk,fun σ' K' h=>⟨r,hp,h⟩⟩
 |fD f args=>
  simp only[aK]at h
  simp only[aK,aj]
  split at h
  ·rename_i g b c he
   obtain⟨bC,r,hp,hk⟩:=h
   (try rw[he])
   exact⟨r,hk,fun σ' K' h=>⟨bC,r,hp,h⟩⟩
  ·rename_i g b c he
   obtain⟨bC,r,hp,hk⟩:=h
   (try rw[he])
   exact⟨r,hk,fun σ' K' h=>⟨bC,r,hp,h⟩⟩
  grind
 |dF t ah parts=>
  simp only[aK]at h
  simp only[aK,aj]
  split at h
  ·rename_i rows he
   (try rw[he])
   obtain⟨hn,h⟩:=h
   split at h
   ·rename_i e;exact⟨_,h,fun σ' K' hk=>⟨hn,by first|exact hk|(rw[e];exact hk)|(simp[e];exact hk)⟩⟩
   ·rename_i e;exact⟨_,h,fun σ' K' hk=>⟨hn,by first|exact hk|(rw[e];exact hk)|(simp[e];exact hk)⟩⟩
   ·exact h.elim
  ·exact h.elim
 |len s x=>
  cases s<;>simp only[aK]at h<;>simp only[aK]
  ·split at h
   ·rename_i b n c he;(try rw[he]);exact⟨_,h,fun σ' K' hk=>hk⟩
   ·rename_i tg b o n c he;(try rw[he]);exact⟨_,h,fun σ' K' hk=>hk⟩
   ·rename_i nn ez rows he;(try rw[he]);exact⟨_,h,fun σ' K' hk=>hk⟩
   ·rename_i ez tg b u c rows he;(try rw[he]);exact⟨_,h,fun σ' K' hk=>hk⟩
   ·exact h.elim
  ·split at h
   ·rename_i s he;(try rw[he]);exact⟨_,h,fun σ' K' hk=>hk⟩
   ·exact h.elim
 |mv x=>exact⟨_,h,fun σ' K' hk=>hk⟩
 |nh t x=>exact⟨_,h,fun σ' K' hk=>hk⟩
 |pick c x y=>
  simp only[aK,aj]at h
  simp only[aK,aj]
  split at h
  ·rename_i t he;(try rw[he]);exact⟨_,h,fun σ' K' hk=>hk⟩
  ·exact h.elim
 |build z parts=>
  simp only[aK,aj]at h
  simp only[aK,aj]
  split at h
  ·rename_i t he;(try rw[he]);exact⟨_,h,fun σ' K' hk=>hk⟩
  ·exact h.elim
 |load g n x=>cases hl
 |mo x=>
  simp only[aK,aj]at h
  simp only[aK,aj]
  split at h<;>first|exact h.elim|(rename_i he;(try rw[he]);exact⟨_,h,fun σ' K' hk=>hk⟩)
 |bin op x y=>
  simp only[aK,aj]at h
  simp only[aK,aj]
  split at h
  ·rename_i u v hu hv
   (try rw[hu,hv])
   obtain⟨z,hz,pI⟩:=SU h
   exact⟨.v z,hz,fun σ' K' hk=>pI _ hk⟩
  ·exact h.elim
 |ji n k x y=>
  simp only[aK,aj]at h
  simp only[aK,aj]
  split at h
  ·rename_i t he;(try rw[he]);exact⟨_,h,fun σ' K' hk=>hk⟩
  ·exact h.elim
 |eqs n k x y=>
  simp only[aK,aj]at h
  simp only[aK,aj]
  split at h
  ·rename_i xs ys h1 h2
   (try rw[h1,h2])
   split at h
   ·rename_i t he;(try simp only[he]);exact⟨_,h,fun σ' K' hk=>hk⟩
   ·exact h.elim
  ·exact h.elim
 |un op x=>
  simp only[aK,aj]at h
  simp only[aK,aj]
  split at h
  ·rename_i u hu
   (try rw[hu])
   split at h
   ·rename_i t he;(try simp only[he]);exact⟨_,h,fun σ' K' hk=>hk⟩
   ·exact h.elim
  ·exact h.elim
 |lM k x=>
  simp only[aK,aj]at h
  simp only[aK,aj]
  split at h
  ·rename_i k' n he;(try rw[he]);exact⟨_,h,fun σ' K' hk=>hk⟩
  ·exact h.elim
 |mG x=>
  simp only[aK,aj]at h
  simp only[aK,aj]
  split at h
  ·rename_i s he;(try rw[he]);exact⟨_,h,fun σ' K' hk=>hk⟩
  ·exact h.elim
 |ng fn first captured=>
  simp only[aK,aj]at h
  simp only[aK,aj]
  split at h
  ·rename_i u v h1 h2;(try rw[h1,h2]);exact⟨_,h,fun σ' K' hk=>hk⟩
  ·split at h
   ·exact⟨_,h,fun σ' K' hk=>hk⟩
   ·exact h.elim
 |slice ah x lo hi=>
  simp only[aK,aj]at h
  simp only[aK,aj]
  split at h
  ·rename_i ck ek h1 h2
   (try rw[h1,h2])
   split at h
   ·rename_i nn e rows he;(try simp only[he]);exact⟨_,h.2.2.2.2,fun σ' K' hk=>⟨h.1,h.2.1,h.2.2.1,h.2.2.2.1,hk⟩⟩
   ·rename_i e tg b u c rows he;(try simp only[he]);exact⟨_,h.2.2.2.2,fun σ' K' hk=>⟨h.1,h.2.1,h.2.2.1,h.2.2.2.1,hk⟩⟩
   ·rename_i he;(try simp only[he]);exact⟨_,h.2.2,fun σ' K' hk=>⟨h.1,h.2.1,hk⟩⟩
   ·exact h.elim
  ·exact h.elim
 |aY off x=>
  simp only[aK,aj]at h
  simp only[aK,aj]
  split at h<;>first|exact h.elim|(rename_i he;(try rw[he]);exact⟨_,h,fun σ' K' hk=>hk⟩)
 |field g o n x=>
  simp only[aK,aj]at h
  simp only[aK,aj]
  split at h
  ·rename_i l hl
   (try rw[hl])
   obtain⟨aw,h⟩:=h
   cases g with
   |true=>simp only[YX]at h ⊢;exact⟨_,h,fun σ' K' hk=>⟨aw,hk⟩⟩
   |false=>
    simp only[ZU,YV]at h ⊢
    split at h
    ·rename_i y hy;(try rw[hy]);exact⟨_,h,fun σ' K' hk=>⟨aw,hk⟩⟩
    ·exact h.elim
  ·exact h.elim
 |fe ah x i=>
  simp only[aK,aj]at h
  simp only[aK,aj]
  split at h
  ·rename_i k j hi
   (try rw[hi])
   split at h
   ·rename_i nn e rows he;(try simp only[he]);exact⟨_,h.2.2.2,fun σ' K' hk=>⟨h.1,h.2.1,h.2.2.1,hk⟩⟩
   ·rename_i e tg b u c rows he;(try simp only[he]);exact⟨_,h.2.2.2,fun σ' K' hk=>⟨h.1,h.2.1,h.2.2.1,hk⟩⟩
   ·rename_i tg b o n c he;(try simp only[he]);exact⟨_,h.2.2,fun σ' K' hk=>⟨h.1,h.2.1,hk⟩⟩
   ·exact h.elim
  ·exact h.elim
 |me n ah x i=>
  simp only[aK,aj]at h
  simp only[aK,aj]
  split at h
  ·rename_i k j hi
   (try rw[hi])
   split at h
   ·rename_i tg b o he;(try simp only[he]);exact⟨_,h.2.2,fun σ' K' hk=>⟨h.1,h.2.1,hk⟩⟩
   ·rename_i l he;(try simp only[he]);exact⟨_,h.2.2,fun σ' K' hk=>⟨h.1,h.2.1,hk⟩⟩
   ·rename_i g o he;(try simp only[he]);obtain⟨l,ha,h0,h1,h2,h3⟩:=h;exact⟨_,h3,fun σ' K' hk=>⟨l,ha,h0,h1,h2,hk⟩⟩
   ·exact h.elim
  ·exact h.elim
 |idxs x i=>
  simp only[aK,aj]at h
  simp only[aK,aj]
  split at h
  ·rename_i k j s h1 h2
   (try rw[h1,h2])
   obtain⟨aw,h⟩:=h
   exact⟨_,h,fun σ' K' hk=>⟨aw,hk⟩⟩
  ·exact h.elim
 |extract x i=>
  simp only[aK,aj]at h
  simp only[aK,aj]
  split at h
  ·rename_i xs he
   (try rw[he])
   split at h
   ·rename_i y hy;(try simp only[hy]);exact⟨_,h,fun σ' K' hk=>hk⟩
   ·exact h.elim
  ·rename_i xs he
   (try rw[he])
   split at h
   ·rename_i y hy;(try simp only[hy]);exact⟨_,h,fun σ' K' hk=>hk⟩
   ·exact h.elim
  ·exact h.elim
 |max2 x y=>
  simp only[aK,aj]at h
  simp only[aK,aj]
  split at h
  ·rename_i u v h1 h2
   (try rw[h1,h2])
   split at h
   ·rename_i t he;(try simp only[he]);exact⟨_,h,fun σ' K' hk=>hk⟩
   ·exact h.elim
  ·exact h.elim
 |min2 x y=>
  simp only[aK,aj]at h
  simp only[aK,aj]
  split at h
  ·rename_i u v h1 h2
   (try rw[h1,h2])
   split at h
   ·rename_i t he;(try simp only[he]);exact⟨_,h,fun σ' K' hk=>hk⟩
   ·exact h.elim
  ·exact h.elim
end Go.Sx
