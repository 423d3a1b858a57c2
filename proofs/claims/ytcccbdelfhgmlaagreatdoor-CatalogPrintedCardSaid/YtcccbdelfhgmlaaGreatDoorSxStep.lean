/-
  The layer Sx, twelfth part: single steps that are computed.
-/
import Derived.Test.YtcccbdelfhgmlaaGreatDoorSxDraw
set_option linter.unusedVariables false
set_option linter.unusedSimpArgs false
set_option linter.unusedSectionVars false
namespace Go.Sx
open Go.RowKit
def fo{α:Type}(x:AV)(k:AV→Option α):Option α:=
 match x with
 | .v (.int q n)=>k (.v (.int q n))
 | .v (.bool b)=>k (.v (.bool b))
 | .v (.string s)=>k (.v (.string s))
 | .v y=>k (.v y)
 | .any=>k .any
 | .agg xs=>k (.agg xs)
 | .aT xs=>k (.aT xs)
 | .sl nn e rows=>k (.sl nn e rows)
 | .own e t b u c rows=>k (.own e t b u c rows)
 | .ms t b o n c=>k (.ms t b o n c)
 | .pc l=>k (.pc l)
 | .iK t x=>k (.iK t x)
 | .lp t b o=>k (.lp t b o)
 | .eu t b=>k (.eu t b)
 | .ai q=>k (.ai q)
 | .cl f a c=>k (.cl f a c)
 | .fl e rows=>k (.fl e rows)
theorem iZ{α:Type}{x:AV}{k:AV→Option α}{r:α}(h:fo x k=some r):k x=some r:=by
 unfold fo at h
 split at h<;>first|exact h|cases h
def j4{α:Type}:List AV→(List AV→Option α)→Option α
 |[],k=>k []
 |x::l,k=>fo x fun y=>j4 l fun l'=>k (y::l')
theorem jJ{α:Type}:∀ {l:List AV} {k:List AV→Option α} {r:α},j4 l k=some r→k l=some r
 |[],_,_,h=>h
 |x::l,k,r,h=>jJ (l:=l) (k:=fun l'=>k (x::l')) (iZ (k:=fun y=>j4 l fun l'=>k (y::l')) h)
def AR{α:Type}:List (List AV)→(List (List AV)→Option α)→Option α
 |[],k=>k []
 |x::l,k=>j4 x fun y=>AR l fun l'=>k (y::l')
theorem uX{α:Type}:∀ {l:List (List AV)} {k:List (List AV)→Option α} {r:α},AR l k=some r→k l=some r
 |[],_,_,h=>h
 |x::l,k,r,h=>uX (l:=l) (k:=fun l'=>k (x::l')) (jJ (k:=fun y=>AR l fun l'=>k (y::l')) h)
def wy:Store→Nat→Nat→cG→Option Store
 |[],_,_,_=>none
 |(i,b',x')::r,t,b,x=>bif Nat.beq i t then some ((t,b,x)::r)else match wy r t b x with
  |some r'=>some ((i,b',x')::r')
  |none=>none
theorem FP:∀ {σ:Store} {t b:Nat} {x:cG} {σ':Store},wy σ t b x=some σ'→cM σ t b x=σ'
 |[],_,_,_,_,h=>by cases h
 |(i,b',x')::r,t,b,x,σ',h=>by
  simp only[wy]at h
  simp only[cM]
  cases hb:Nat.beq i t with
  |true=>rw[hb]at h;simpa using h
  |false=>
   rw[hb]at h
   simp only[cond_false]at h ⊢
   split at h
   ·rename_i r' hr;cases h;rw[FP hr]
   ·cases h
def Di(op:BinOp):Value→Value→Option (Prop×Value)
 | .int k a,.int k' b=>
  match op with
  | .add=>bif k == k' then some (True,.int k (k.wrap (a+b)))else none
  | .sub=>bif k == k' then some (True,.int k (k.wrap (a-b)))else none
  | .mul=>bif k == k' then some (True,.int k (k.wrap (a * b)))else none
  | .quo=>bif k == k' then some (b≠0,.int k (k.wrap (a.tdiv b)))else none
  | .rem=>bif k == k' then some (b≠0,.int k (a.tmod b))else none
  | .eql=>bif k == k' then some (True,.bool (decide (a=b)))else none
  | .neq=>bif k == k' then some (True,.bool (!decide (a=b)))else none
  | .lss=>bif k == k' then some (True,.bool (decide (a<b)))else none
  | .leq=>bif k == k' then some (True,.bool (decide (a≤b)))else none
  | .gtr=>bif k == k' then some (True,.bool (decide (b<a)))else none
  | .geq=>bif k == k' then some (True,.bool (decide (b≤a)))else none
  | .and=>bif k == k' then some (True,.int k (bits .and k a b))else none
  | .or=>bif k == k' then some (True,.int k (bits .or k a b))else none
  | .xor=>bif k == k' then some (True,.int k (bits .xor k a b))else none
  | .andNot=>bif k == k' then some (True,.int k (bits .andNot k a b))else none
  | .shl=>some (0≤b∧b≤k.bits,.int k (k.wrap (a * 2 ^ b.toNat)))
  | .shr=>some (0≤b∧b≤k.bits,.int k (a / 2 ^ b.toNat))
 | .string a,.string b=>
  match op with
  | .add=>some (a.size+b.size≤9223372036854775807,.string (a++b))
  | .eql=>some (True,.bool (decide (a=b)))
  | .neq=>some (True,.bool (!decide (a=b)))
  | .lss=>some (True,.bool (Op.bytesLess a.toList b.toList))
  | .leq=>some (True,.bool (Op.bytesLess a.toList b.toList || decide (a=b)))
  | .gtr=>some (True,.bool (!(Op.bytesLess a.toList b.toList || decide (a=b))))
  | .geq=>some (True,.bool (!Op.bytesLess a.toList b.toList))
  |_=>none
 |_,_=>none
def dr(cfg:Nat→Nat)(d:Option Nat)(rg:ag)(σ:Store):aw→Option (Prop×AV×Store)
 | .mv x=>fo (ev rg x) fun v=>some (True,v,σ)
 | .pick c a b=>match ev rg c with
  | .v (.bool true)=>fo (ev rg a) fun v=>some (True,v,σ)
  | .v (.bool false)=>fo (ev rg b) fun v=>some (True,v,σ)
  |_=>none
 | .build z parts=>match xD (z.map .v) (qQ rg parts)with
  |some l=>j4 l fun l=>some (True,.agg l,σ)
  |none=>none
 | .bM _ af parts=>match rowsOf af (bo rg parts)with
  |some rows=>match cfg (d.getD 0)with
   |0=>AR rows fun rows=>some (rows.length≤1000000,.sl true af rows,σ)
   |3=>AR rows fun rows=>some (rows.length≤1000000,.fl af rows,σ)
   |_=>none
  |none=>none
 | .load agg n x=>match ev rg x with
  | .lp t b o=>match aR σ t with
   |some (b',.cells l)=>match agg with
    |true=>bif Nat.ble (o+n) l.length then j4 ((l.drop o).take n) (fun l2=>some (b=b',.agg l2,σ))else none
    |false=>match l[o]? with
     |some y=>fo y fun v=>some (b=b',v,σ)
     |none=>none
   |_=>none
  | .pc l=>match agg with
   |true=>bif Nat.ble n l.length then j4 (l.take n) (fun l2=>some (True,.agg l2,σ))else none
   |false=>match l[0]? with
    |some y=>fo y fun v=>some (True,v,σ)
    |none=>none
  |_=>none
 | .store n x y=>match ev rg x,(ev rg y).cells? with
  | .lp t b o,some l'=>match aR σ t with
   |some (b',.cells l)=>bif Nat.beq l'.length n && l'.all AV.one && Nat.ble (o+n) l.length then j4 (over l o l') (fun l2=>match wy σ t b (.cells l2)with
    |some σ'=>some (b=b',.v undef,σ')
    |none=>none)else none
   |_=>none
  |_,_=>none
 | .kZ x=>match ev rg x with
  | .lp t b o=>some (True,.lp t b o,σ)
  | .pc l=>some (True,.pc l,σ)
  |_=>none
 | .bin op x y=>match ev rg x,ev rg y with
  | .v a,.v b=>match Di op a b with
   |some (p,r)=>some (p,.v r,σ)
   |none=>none
  |_,_=>none
 | .iX neg k x y=>match Dz k (ev rg x) (ev rg y)with
  |some b=>some (True,.v (.bool (b ^^ neg)),σ)
  |none=>none
 | .eqs neg ks x y=>match(ev rg x).nP,(ev rg y).nP with
  |some xs,some ys=>match sP ks xs ys with
   |some b=>some (True,.v (.bool (b ^^ neg)),σ)
   |none=>none
  |_,_=>none
 | .un op x=>match ev rg x with
  | .v a=>match Li op a with
   |some r=>some (True,.v r,σ)
   |none=>none
  |_=>none
 | .mO k x=>match ev rg x with
  | .v (.int _ n)=>some (True,.v (.int k (k.wrap n)),σ)
  |_=>none
 | .qN x=>match ev rg x with
  | .v (.string s)=>some (True,.v (.string s),σ)
  |_=>none
 | .nA t x=>fo (ev rg x) fun v=>some (True,.iK t v,σ)
 | .gG fn first captured=>match mR (bo rg first),mR (bo rg captured)with
  |some a,some c=>some (True,.v (.func fn a.toArray c.toArray),σ)
  |_,_=>match fn with
   | .func f=>some (True,.cl f (bo rg first) (bo rg captured),σ)
   |_=>none
 | .slice af x lo hi=>match oD (lo.map (ev rg)),oD (hi.map (ev rg))with
  |some lo,some hi=>match ev rg x with
   | .sl nn e rows=>some (e=af∧0≤lo.getD 0∧lo.getD 0≤hi.getD rows.length∧hi.getD rows.length≤rows.length,.sl nn af ((rows.take (hi.getD rows.length).toNat).drop (lo.getD 0).toNat),σ)
   |_=>none
  |_,_=>none
 | .jI off x=>match ev rg x with
  | .lp t b o=>some (True,.lp t b (o+off),σ)
  | .pc l=>some (True,.pc (l.drop off),σ)
  |_=>none
 | .field agg off n x=>match(ev rg x).nP with
  |some l=>bif Nat.ble (off+n) l.length then(match agg with
   |true=>j4 ((l.drop off).take n) fun l2=>some (True,.agg l2,σ)
   |false=>match l[off]? with
    |some y=>fo y fun v=>some (True,v,σ)
    |none=>none)else none
  |none=>none
 | .gE af x i=>match ev rg i with
  | .v (.int _ i)=>match ev rg x with
   | .sl _ e rows=>some (e=af∧0≤i∧i<rows.length,.pc (rows.getD i.toNat []),σ)
   | .own e _ _ _ _ rows=>some (e=af∧0≤i∧i<rows.length,.pc (rows.getD i.toNat []),σ)
   | .ms t b o n _=>some (0≤i∧i<n,.lp t b (o+i.toNat * af),σ)
   |_=>none
  |_=>none
 | .jt n af x i=>match ev rg i with
  | .v (.int _ i)=>match ev rg x with
   | .lp t b o=>some (0≤i∧i<n,.lp t b (o+i.toNat * af),σ)
   | .pc l=>some (0≤i∧i<n,.pc (l.drop (i.toNat * af)),σ)
   |_=>none
  |_=>none
 | .extract x i=>match ev rg x with
  | .aT xs=>match xs[i]? with
   |some y=>fo y fun v=>some (True,v,σ)
   |none=>none
  |_=>none
 | .len true x=>match ev rg x with
  | .v (.string s)=>some (True,.v (.int .i64 s.size),σ)
  |_=>none
 | .len false x=>match ev rg x with
  | .v (.slice _ n _)=>some (True,.v (.int .i64 n),σ)
  | .ms _ _ _ n _=>some (True,.v (.int .i64 n),σ)
  | .sl _ _ rows=>some (True,.v (.int .i64 rows.length),σ)
  | .own _ _ _ _ _ rows=>some (True,.v (.int .i64 rows.length),σ)
  |_=>none
 | .max2 x y=>match ev rg x,ev rg y with
  | .v a,.v b=>match yE false a b with
   |some r=>some (True,.v r,σ)
   |none=>none
  |_,_=>none
 | .min2 x y=>match ev rg x,ev rg y with
  | .v a,.v b=>match yE true a b with
   |some r=>some (True,.v r,σ)
   |none=>none
  |_,_=>none
 |_=>none
theorem abm{op:BinOp}{a b:Value}{p:Prop}{r:Value}{K:Value→Prop}(h:Di op a b=some (p,r))(hp:p)(k:K r):oR op a b K:=by
 unfold Di at h
 split at h
 ·rename_i q x q' y
  by_cases e:q=q'
  ·subst e
   cases op<;>simp only[beq_self_eq_true,cond_true,Z1,Yw]at h<;>obtain⟨rfl,rfl⟩:=h<;>simp only[oR]
   case shl=>exact⟨hp.1,hp.2,k⟩
   case shr=>exact⟨hp.1,hp.2,k⟩
   case quo=>exact⟨trivial,hp,k⟩
   case rem=>exact⟨trivial,hp,k⟩
   all_goals exact⟨trivial,k⟩
  ·have e':(q == q')=false:=by simpa using e
   cases op<;>simp only[e',cond_false,reduceCtorEq,Z1,Yw]at h<;>simp only[oR]
   case shl=>obtain⟨rfl,rfl⟩:=h;exact⟨hp.1,hp.2,k⟩
   case shr=>obtain⟨rfl,rfl⟩:=h;exact⟨hp.1,hp.2,k⟩
 ·cases op<;>simp only[reduceCtorEq]at h<;>simp only[oR]
  case add=>cases h;exact⟨hp,k⟩
  all_goals(cases h;exact k)
 ·cases h
theorem tG{α:Type}{c:Bool}{o:Option α}{r:α}(h:(bif c then o else none)=some r):c=true∧o=some r:=by
 cases c with
 |true=>exact⟨rfl,h⟩
 |false=>cases h
theorem Ds{P:Program}[Glob P]{cfg:Nat→Nat}{d:Option Nat}{rg:ag}{σ σ':Store}{op:aw}{p:Prop}{v:AV}{K:AV→Store→Prop}{E:List PanicEntry→Store→Prop}
  (h:dr cfg d rg σ op=some (p,v,σ')) (hp:p) (k:K v σ'):aj P cfg d rg σ K E op:=by
 cases op with
 |mv x=>simp only[dr]at h;have:=iZ h;cases this;exact k
 |pick c x y=>
  simp only[dr]at h
  simp only[aj]
  split at h
  ·rename_i e;rw[e];have:=iZ h;cases this;exact k
  ·rename_i e;rw[e];have:=iZ h;cases this;exact k
  ·cases h
 |box t x=>cases h
 |alloc t z=>cases h
 |append t n k z x y=>cases h
 |call f args=>cases h
 |dY f args=>cases h
 |idxs x y=>cases h
 |cH op ty ti args=>cases h
 |exts op ty ti args=>cases h
 |panic x=>cases h
 |build z parts=>
  simp only[dr]at h
  simp only[aj]
  split at h
  ·rename_i l e;rw[e];have:=jJ h;cases this;exact k
  ·cases h
 |bM t af parts=>
  simp only[dr]at h
  simp only[aj]
  split at h
  ·rename_i rows e
   rw[e]
   split at h
   ·rename_i e2;have:=uX h;cases this;exact⟨hp,by simp only[e2];exact k⟩
   ·rename_i e2;have:=uX h;cases this;exact⟨hp,by simp only[e2];exact k⟩
   ·cases h
  ·cases h
 |load agg n x=>
  simp only[dr]at h
  simp only[aj]
  split at h
  ·rename_i t b o e
   rw[e]
   split at h
   ·rename_i b' l e2
    simp only[e2]
    split at h
    ·obtain⟨h1,h⟩:=tG h
     have:=jJ h
     cases this
     exact⟨hp,by simp only[Y4];exact⟨Z7 h1,k⟩⟩
    ·split at h
     ·rename_i y e3
      have:=iZ h
      cases this
      exact⟨hp,by simp only[ZM,Zf,e3];exact k⟩
     ·cases h
   ·cases h
  ·rename_i l e
   rw[e]
   split at h
   ·obtain⟨h1,h⟩:=tG h
    have:=jJ h
    cases this
    simp only[Y4];exact⟨Z7 h1,k⟩
   ·split at h
    ·rename_i y e3
     have:=iZ h
     cases this
     simp only[ZM,Zf,e3];exact k
    ·cases h
  ·cases h
 |store n x y=>
  simp only[dr]at h
  simp only[aj]
  split at h
  ·rename_i t b o l' e1 e2
   rw[e1,e2]
   split at h
   ·rename_i b' l e3
    simp only[e3]
    obtain⟨h1,h⟩:=tG h
    simp only[Z0]at h1
    replace h:=jJ h
    split at h
    case h_2=>cases h
    rename_i az e4
    cases h
    rw[← FP e4]at k
    exact⟨hp,ZB h1.1.1,h1.1.2,Z7 h1.2,k⟩
   ·cases h
  ·cases h
 |kZ x=>
  simp only[dr]at h
  simp only[aj]
  split at h
  ·rename_i e;rw[e];cases h;exact k
  ·rename_i e;rw[e];cases h;exact k
  ·cases h
 |bin op x y=>
  simp only[dr]at h
  simp only[aj]
  split at h
  ·rename_i a b e1 e2
   rw[e1,e2]
   split at h
   ·rename_i p' r e3;cases h;exact abm e3 hp k
   ·cases h
  ·cases h
 |iX neg q x y=>
  simp only[dr]at h
  simp only[aj]
  split at h
  ·rename_i b e;rw[e];cases h;exact k
  ·cases h
 |eqs neg ks x y=>
  simp only[dr]at h
  simp only[aj]
  split at h
  ·rename_i xs ys e1 e2
   rw[e1,e2]
   split at h
   ·rename_i b e;simp only[e];cases h;exact k
   ·cases h
  ·cases h
 |un op x=>
  simp only[dr]at h
  simp only[aj]
  split at h
  ·rename_i a e1
   rw[e1]
   split at h
   ·rename_i r e;simp only[e];cases h;exact k
   ·cases h
  ·cases h
 |mO q x=>
  simp only[dr]at h
  simp only[aj]
  split at h
  ·rename_i e;rw[e];cases h;exact k
  ·cases h
 |qN x=>
  simp only[dr]at h
  simp only[aj]
  split at h
  ·rename_i e;rw[e];cases h;exact k
  ·cases h
 |nA t x=>simp only[dr]at h;have:=iZ h;cases this;exact k
 |gG fn first captured=>
  simp only[dr]at h
  simp only[aj]
  split at h
  ·rename_i e1 e2;rw[e1,e2];cases h;exact k
  ·split at h
   ·cases h;first|(simp only[*];done)|(simp only[*];exact k)
   ·cases h
 |slice af x lo hi=>
  simp only[dr]at h
  simp only[aj]
  split at h
  ·rename_i cx eK e1 e2
   rw[e1,e2]
   split at h
   ·rename_i nn e rows e3;simp only[e3];cases h;exact⟨hp.1,hp.2.1,hp.2.2.1,hp.2.2.2,k⟩
   ·cases h
  ·cases h
 |jI off x=>
  simp only[dr]at h
  simp only[aj]
  split at h
  ·rename_i e;rw[e];cases h;exact k
  ·rename_i e;rw[e];cases h;exact k
  ·cases h
 |field agg off n x=>
  simp only[dr]at h
  simp only[aj]
  split at h
  ·rename_i l e
   rw[e]
   obtain⟨h1,h⟩:=tG h
   refine⟨Z7 h1,?_⟩
   split at h
   ·have:=jJ h;cases this;exact k
   ·split at h
    ·rename_i y e3
     have:=iZ h
     cases this
     simp only[ZM,Zf,e3];exact k
    ·cases h
  ·cases h
 |gE af x i=>
  simp only[dr]at h
  simp only[aj]
  split at h
  ·rename_i q j e1
   rw[e1]
   split at h
   ·rename_i e;simp only[e];cases h;exact⟨hp.1,hp.2.1,hp.2.2,k⟩
   ·rename_i e;simp only[e];cases h;exact⟨hp.1,hp.2.1,hp.2.2,k⟩
   ·rename_i e;simp only[e];cases h;exact⟨hp.1,hp.2,k⟩
   ·cases h
  ·cases h
 |jt n af x i=>
  simp only[dr]at h
  simp only[aj]
  split at h
  ·rename_i q j e1
   rw[e1]
   split at h
   ·rename_i e;simp only[e];cases h;exact⟨hp.1,hp.2,k⟩
   ·rename_i e;simp only[e];cases h;exact⟨hp.1,hp.2,k⟩
   ·cases h
  ·cases h
 |extract x i=>
  simp only[dr]at h
  simp only[aj]
  split at h
  ·rename_i xs e1
   rw[e1]
   split at h
   ·rename_i y e;simp only[e];have:=iZ h;cases this;exact k
   ·cases h
  ·cases h
 |len s x=>
  cases s with
  |true=>
   simp only[dr]at h
   simp only[aj]
   split at h
   ·rename_i e;rw[e];cases h;exact k
   ·cases h
  |false=>
   simp only[dr]at h
   simp only[aj]
   split at h
   ·rename_i e;rw[e];cases h;exact k
   ·rename_i e;rw[e];cases h;exact k
   ·rename_i e;rw[e];cases h;exact fun _=>k
   ·rename_i e;rw[e];cases h;exact fun _=>k
   ·cases h
 |max2 x y=>
  simp only[dr]at h
  simp only[aj]
  split at h
  ·rename_i a b e1 e2
   rw[e1,e2]
   split at h
   ·rename_i r e;simp only[e];cases h;exact k
   ·cases h
  ·cases h
 |min2 x y=>
  simp only[dr]at h
  simp only[aj]
  split at h
  ·rename_i a b e1 e2
   rw[e1,e2]
   split at h
   ·rename_i r e;simp only[e];cases h;exact k
   ·cases h
  ·cases h
def dI(σ σ':Store):Prop:=(∀ t,aR σ t=aR σ' t)∧σ.Perm σ'
theorem dI.refl(σ:Store):dI σ σ:=⟨fun _=>rfl,.refl _⟩
theorem dI.symm{σ σ':Store}(h:dI σ σ'):dI σ' σ:=⟨fun t=>(h.1 t).symm,h.2.symm⟩
theorem dI.trans{a b c:Store}(h:dI a b)(k:dI b c):dI a c:=⟨fun t=>(h.1 t).trans (k.1 t),h.2.trans k.2⟩
theorem rE(t b:Nat)(x:cG)(σ:Store)(s:Nat):aR ((t,b,x)::σ) s=if t=s then some (b,x)else aR σ s:=by
 simp only[aR]
 cases h:Nat.beq t s with
 |true=>rw[Z8 (ZB h)];rfl
 |false=>rw[Z9 (fun e=>by subst e;simp[YB]at h)];rfl
theorem dI.cons{σ σ':Store}(e:Nat×Nat×cG)(h:dI σ σ'):dI (e::σ) (e::σ'):=by
 obtain⟨t,b,x⟩:=e
 exact⟨fun s=>by rw[rE,rE,h.1 s],h.2.cons _⟩
theorem dI.swap{t t' b b':Nat}{x x':cG}(h:t≠t')(σ:Store):dI ((t,b,x)::(t',b',x')::σ) ((t',b',x')::(t,b,x)::σ):=
 ⟨fun s=>by
  simp only[rE]
  by_cases h1:t=s
  ·by_cases h2:t'=s
   ·exact absurd (h1.trans h2.symm) h
   ·simp[h1,h2]
  ·by_cases h2:t'=s<;>simp[h1,h2],List.Perm.swap _ _ _⟩
theorem vP{t b:Nat}{x:cG}:∀ {σ:Store},aR σ t=some (b,x)→∀ b' x' s,aR (cM σ t b' x') s=if t=s then some (b',x')else aR σ s
 |[],h,_,_,_=>by cases h
 |(i,c,y)::σ,h,b',x',s=>by
  rw[rE]at h
  simp only[cM]
  cases hb:Nat.beq i t with
  |true=>
   obtain rfl:=ZB hb
   simp only[cond_true,rE]
   split<;>rfl
  |false=>
   have aJ:i≠t:=fun e=>by subst e;simp[YB]at hb
   rw[Z9 aJ]at h
   simp only[cond_false,rE,vP h b' x' s]
   by_cases h1:i=s
   ·have:t≠s:=fun e=>aJ (h1.trans e.symm)
    simp[h1,this]
   ·simp[h1]
theorem dI.cM{σ σ':Store}(h:dI σ σ'){t b:Nat}{x:cG}(hb:aR σ t=some (b,x))(b':Nat)(x':cG):dI (Sx.cM σ t b' x') (Sx.cM σ' t b' x'):=by
 have iG:aR σ' t=some (b,x):=(h.1 t).symm.trans hb
 refine⟨fun s=>by rw[vP hb,vP iG,h.1 s],?_⟩
 obtain⟨p,q,e,k⟩:=uk hb
 obtain⟨p',q',e',k'⟩:=uk iG
 rw[k,k']
 have hp:=h.2
 rw[e,e']at hp
 have h1:((t,b,x)::(p++q)).Perm ((t,b,x)::(p'++q')):=(List.perm_middle.symm.trans hp).trans Yb
 exact(List.perm_middle.trans ((h1.cons_inv).cons _)).trans List.perm_middle.symm
theorem Inv.perm{P:Program}[Glob P]{M:Mem}{w0:Base}{w:World}{σ σ':Store}(hI:Inv P M w0 σ w)(h:σ.Perm σ'):Inv P M w0 σ' w:=
 ⟨hI.os,hI.tape,hI.output,hI.size,hI.old,hI.dA,fun e he=>hI.st e (h.mem_iff.2 he),((h.map _).nodup_iff).1 hI.nd,hI.gl,hI.gw,hI.bm⟩
theorem axM{P:Program}[Glob P]{cfg:Nat→Nat}{d:Option Nat}{rg:ag}{σ:Store}{K:AV→Prop}{op:aw}(hl:op.cls=0)(h:aG P cfg d rg σ K op):
  ∃ x,K x∧∀ (σ':Store) (K':AV→Prop),K' x→aG P cfg d rg σ' K' op:=by
 cases op with
 |box t x=>exact h.elim
 |alloc t z=>exact h.elim
 |store n x y=>exact h.elim
 |append t n k z x y=>exact h.elim
 |exts op ty ti args=>exact h.elim
 |panic x=>exact h.elim
 |cH op ty ti args=>obtain⟨r,hp,hk⟩:=h;exact⟨r,hk,fun σ' K' h=>⟨r,hp,h⟩⟩
 |call f args=>obtain⟨r,hp,hk⟩:=h;exact⟨r,hk,fun σ' K' h=>⟨r,hp,h⟩⟩
 |dY f args=>
  simp only[aG]at h
  simp only[aG,aj]
  split at h
  ·rename_i g b c he
   obtain⟨b7,r,hp,hk⟩:=h
   (try rw[he])
   exact⟨r,hk,fun σ' K' h=>⟨b7,r,hp,h⟩⟩
  ·rename_i g b c he
   obtain⟨b7,r,hp,hk⟩:=h
   (try rw[he])
   exact⟨r,hk,fun σ' K' h=>⟨b7,r,hp,h⟩⟩
  ·exact h.elim
 |bM t af parts=>
  simp only[aG]at h
  simp only[aG,aj]
  split at h
  ·rename_i rows he
   (try rw[he])
   obtain⟨hn,h⟩:=h
   split at h
   ·rename_i e;exact⟨_,h,fun σ' K' hk=>⟨hn,by first|exact hk|(rw[e];exact hk)|(simp[e];exact hk)⟩⟩
   ·rename_i e;exact⟨_,h,fun σ' K' hk=>⟨hn,by first|exact hk|(rw[e];exact hk)|(simp[e];exact hk)⟩⟩
   ·exact h.elim
  ·exact h.elim
 |len s x=>
  cases s<;>simp only[aG]at h<;>simp only[aG]
  ·split at h
   ·rename_i b n c he;(try rw[he]);exact⟨_,h,fun σ' K' hk=>hk⟩
   ·rename_i tg b o n c he;(try rw[he]);exact⟨_,h,fun σ' K' hk=>hk⟩
   ·rename_i nn ez rows he;(try rw[he]);exact⟨_,h,fun σ' K' hk=>hk⟩
   ·rename_i ez tg b u c rows he;(try rw[he]);exact⟨_,h,fun σ' K' hk=>hk⟩
   ·exact h.elim
  ·split at h
   ·rename_i s he;(try rw[he]);exact⟨_,h,fun σ' K' hk=>hk⟩
   ·exact h.elim
 |mv x=>exact⟨_,h,fun σ' K' hk=>hk⟩
 |nA t x=>exact⟨_,h,fun σ' K' hk=>hk⟩
 |pick c x y=>
  simp only[aG,aj]at h
  simp only[aG,aj]
  split at h
  ·rename_i t he;(try rw[he]);exact⟨_,h,fun σ' K' hk=>hk⟩
  ·exact h.elim
 |build z parts=>
  simp only[aG,aj]at h
  simp only[aG,aj]
  split at h
  ·rename_i t he;(try rw[he]);exact⟨_,h,fun σ' K' hk=>hk⟩
  ·exact h.elim
 |load g n x=>cases hl
 |kZ x=>
  simp only[aG,aj]at h
  simp only[aG,aj]
  split at h<;>first|exact h.elim|(rename_i he;(try rw[he]);exact⟨_,h,fun σ' K' hk=>hk⟩)
 |bin op x y=>
  simp only[aG,aj]at h
  simp only[aG,aj]
  split at h
  ·rename_i u v hu hv
   (try rw[hu,hv])
   obtain⟨z,hz,pT⟩:=Vm h
   exact⟨.v z,hz,fun σ' K' hk=>pT _ hk⟩
  ·exact h.elim
 |iX n k x y=>
  simp only[aG,aj]at h
  simp only[aG,aj]
  split at h
  ·rename_i t he;(try rw[he]);exact⟨_,h,fun σ' K' hk=>hk⟩
  ·exact h.elim
 |eqs n k x y=>
  simp only[aG,aj]at h
  simp only[aG,aj]
  split at h
  ·rename_i xs ys h1 h2
   (try rw[h1,h2])
   split at h
   ·rename_i t he;(try simp only[he]);exact⟨_,h,fun σ' K' hk=>hk⟩
   ·exact h.elim
  ·exact h.elim
 |un op x=>
  simp only[aG,aj]at h
  simp only[aG,aj]
  split at h
  ·rename_i u hu
   (try rw[hu])
   split at h
   ·rename_i t he;(try simp only[he]);exact⟨_,h,fun σ' K' hk=>hk⟩
   ·exact h.elim
  ·exact h.elim
 |mO k x=>
  simp only[aG,aj]at h
  simp only[aG,aj]
  split at h
  ·rename_i k' n he;(try rw[he]);exact⟨_,h,fun σ' K' hk=>hk⟩
  ·exact h.elim
 |qN x=>
  simp only[aG,aj]at h
  simp only[aG,aj]
  split at h
  ·rename_i s he;(try rw[he]);exact⟨_,h,fun σ' K' hk=>hk⟩
  ·exact h.elim
 |gG fn first captured=>
  simp only[aG,aj]at h
  simp only[aG,aj]
  split at h
  ·rename_i u v h1 h2;(try rw[h1,h2]);exact⟨_,h,fun σ' K' hk=>hk⟩
  ·split at h
   ·exact⟨_,h,fun σ' K' hk=>hk⟩
   ·exact h.elim
 |slice af x lo hi=>
  simp only[aG,aj]at h
  simp only[aG,aj]
  split at h
  ·rename_i cx eK h1 h2
   (try rw[h1,h2])
   split at h
   ·rename_i nn e rows he;(try simp only[he]);exact⟨_,h.2.2.2.2,fun σ' K' hk=>⟨h.1,h.2.1,h.2.2.1,h.2.2.2.1,hk⟩⟩
   ·rename_i e tg b u c rows he;(try simp only[he]);exact⟨_,h.2.2.2.2,fun σ' K' hk=>⟨h.1,h.2.1,h.2.2.1,h.2.2.2.1,hk⟩⟩
   ·rename_i he;(try simp only[he]);exact⟨_,h.2.2,fun σ' K' hk=>⟨h.1,h.2.1,hk⟩⟩
   ·exact h.elim
  ·exact h.elim
 |jI off x=>
  simp only[aG,aj]at h
  simp only[aG,aj]
  split at h<;>first|exact h.elim|(rename_i he;(try rw[he]);exact⟨_,h,fun σ' K' hk=>hk⟩)
 |field g o n x=>
  simp only[aG,aj]at h
  simp only[aG,aj]
  split at h
  ·rename_i l hl
   (try rw[hl])
   obtain⟨ax,h⟩:=h
   cases g with
   |true=>simp only[Y4]at h ⊢;exact⟨_,h,fun σ' K' hk=>⟨ax,hk⟩⟩
   |false=>
    simp only[ZM,Zf]at h ⊢
    split at h
    ·rename_i y hy;(try rw[hy]);exact⟨_,h,fun σ' K' hk=>⟨ax,hk⟩⟩
    ·exact h.elim
  ·exact h.elim
 |gE af x i=>
  simp only[aG,aj]at h
  simp only[aG,aj]
  split at h
  ·rename_i k j hi
   (try rw[hi])
   split at h
   ·rename_i nn e rows he;(try simp only[he]);exact⟨_,h.2.2.2,fun σ' K' hk=>⟨h.1,h.2.1,h.2.2.1,hk⟩⟩
   ·rename_i e tg b u c rows he;(try simp only[he]);exact⟨_,h.2.2.2,fun σ' K' hk=>⟨h.1,h.2.1,h.2.2.1,hk⟩⟩
   ·rename_i tg b o n c he;(try simp only[he]);exact⟨_,h.2.2,fun σ' K' hk=>⟨h.1,h.2.1,hk⟩⟩
   ·exact h.elim
  ·exact h.elim
 |jt n af x i=>
  simp only[aG,aj]at h
  simp only[aG,aj]
  split at h
  ·rename_i k j hi
   (try rw[hi])
   split at h
   ·rename_i tg b o he;(try simp only[he]);exact⟨_,h.2.2,fun σ' K' hk=>⟨h.1,h.2.1,hk⟩⟩
   ·rename_i l he;(try simp only[he]);exact⟨_,h.2.2,fun σ' K' hk=>⟨h.1,h.2.1,hk⟩⟩
   ·rename_i g o he;(try simp only[he]);obtain⟨l,ha,h0,h1,h2,h3⟩:=h;exact⟨_,h3,fun σ' K' hk=>⟨l,ha,h0,h1,h2,hk⟩⟩
   ·exact h.elim
  ·exact h.elim
 |idxs x i=>
  simp only[aG,aj]at h
  simp only[aG,aj]
  split at h
  ·rename_i k j s h1 h2
   (try rw[h1,h2])
   obtain⟨ax,h⟩:=h
   exact⟨_,h,fun σ' K' hk=>⟨ax,hk⟩⟩
  ·exact h.elim
 |extract x i=>
  simp only[aG,aj]at h
  simp only[aG,aj]
  split at h
  ·rename_i xs he
   (try rw[he])
   split at h
   ·rename_i y hy;(try simp only[hy]);exact⟨_,h,fun σ' K' hk=>hk⟩
   ·exact h.elim
  ·rename_i xs he
   (try rw[he])
   split at h
   ·rename_i y hy;(try simp only[hy]);exact⟨_,h,fun σ' K' hk=>hk⟩
   ·exact h.elim
  ·exact h.elim
 |max2 x y=>
  simp only[aG,aj]at h
  simp only[aG,aj]
  split at h
  ·rename_i u v h1 h2
   (try rw[h1,h2])
   split at h
   ·rename_i t he;(try simp only[he]);exact⟨_,h,fun σ' K' hk=>hk⟩
   ·exact h.elim
  ·exact h.elim
 |min2 x y=>
  simp only[aG,aj]at h
  simp only[aG,aj]
  split at h
  ·rename_i u v h1 h2
   (try rw[h1,h2])
   split at h
   ·rename_i t he;(try simp only[he]);exact⟨_,h,fun σ' K' hk=>hk⟩
   ·exact h.elim
  ·exact h.elim
end Go.Sx
