/-
  The layer Sx, twelfth part: single steps that are computed.
-/
import Derived.Test.YtomhopcnkicknaaGreatDoorSxDraw
set_option linter.unusedVariables false
set_option linter.unusedSimpArgs false
set_option linter.unusedSectionVars false
namespace Go.Sx
open Go.RowKit
def fo{α:Type}(x:AV)(k:AV→Option α):Option α:=
 match x with
 | .v (.int q n)=>k (.v (.int q n))
 | .v (.bool b)=>k (.v (.bool b))
 | .v (.string s)=>k (.v (.string s))
 | .v y=>k (.v y)
 | .any=>k .any
 | .agg xs=>k (.agg xs)
 | .aE xs=>k (.aE xs)
 | .sl nn e rows=>k (.sl nn e rows)
 | .own e t b u c rows=>k (.own e t b u c rows)
 | .ms t b o n c=>k (.ms t b o n c)
 | .pc l=>k (.pc l)
 | .kQ t x=>k (.kQ t x)
 | .lp t b o=>k (.lp t b o)
 | .dc t b=>k (.dc t b)
 | .ai q=>k (.ai q)
 | .cl f a c=>k (.cl f a c)
 | .fl e rows=>k (.fl e rows)
theorem ij{α:Type}{x:AV}{k:AV→Option α}{r:α}(h:fo x k=some r):k x=some r:=by
 unfold fo at h
 split at h<;>first|exact h|cases h
def jL{α:Type}:List AV→(List AV→Option α)→Option α
 |[],k=>k []
 |x::l,k=>fo x fun y=>jL l fun l'=>k (y::l')
theorem jn{α:Type}:∀ {l:List AV} {k:List AV→Option α} {r:α},jL l k=some r→k l=some r
 |[],_,_,h=>h
 |x::l,k,r,h=>jn (l:=l) (k:=fun l'=>k (x::l')) (ij (k:=fun y=>jL l fun l'=>k (y::l')) h)
def yc{α:Type}:List (List AV)→(List (List AV)→Option α)→Option α
 |[],k=>k []
 |x::l,k=>jL x fun y=>yc l fun l'=>k (y::l')
theorem sZ{α:Type}:∀ {l:List (List AV)} {k:List (List AV)→Option α} {r:α},yc l k=some r→k l=some r
 |[],_,_,h=>h
 |x::l,k,r,h=>sZ (l:=l) (k:=fun l'=>k (x::l')) (jn (k:=fun y=>yc l fun l'=>k (y::l')) h)
def rX:Store→Nat→Nat→aG→Option Store
 |[],_,_,_=>none
 |(i,b',x')::r,t,b,x=>bif Nat.beq i t then some ((t,b,x)::r)else match rX r t b x with
  |some r'=>some ((i,b',x')::r')
  |none=>none
theorem Ar:∀ {σ:Store} {t b:Nat} {x:aG} {af:Store},rX σ t b x=some af→eB σ t b x=af
 |[],_,_,_,_,h=>by cases h
 |(i,b',x')::r,t,b,x,af,h=>by
  simp only[rX]at h
  simp only[eB]
  cases hb:Nat.beq i t with
  |true=>grind
  |false=>
   rw[hb]at h
   simp at h ⊢
   split at h
   ·rename_i r' hr;cases h;rw[Ar hr]
   grind
def Be(op:BinOp):Value→Value→Option (Prop×Value)
 | .int k a,.int k' b=>
  match op with
  | .add=>bif k == k' then some (True,.int k (k.wrap (a+b)))else none
  | .sub=>bif k == k' then some (True,.int k (k.wrap (a-b)))else none
  | .mul=>bif k == k' then some (True,.int k (k.wrap (a * b)))else none
  | .quo=>bif k == k' then some (b≠0,.int k (k.wrap (a.tdiv b)))else none
  | .rem=>bif k == k' then some (b≠0,.int k (a.tmod b))else none
  | .eql=>bif k == k' then some (True,.bool (decide (a=b)))else none
  | .neq=>bif k == k' then some (True,.bool (!decide (a=b)))else none
  | .lss=>bif k == k' then some (True,.bool (decide (a<b)))else none
  | .leq=>bif k == k' then some (True,.bool (decide (a≤b)))else none
  | .gtr=>bif k == k' then some (True,.bool (decide (b<a)))else none
  | .geq=>bif k == k' then some (True,.bool (decide (b≤a)))else none
  | .and=>bif k == k' then some (True,.int k (bits .and k a b))else none
  | .or=>bif k == k' then some (True,.int k (bits .or k a b))else none
  | .xor=>bif k == k' then some (True,.int k (bits .xor k a b))else none
  | .andNot=>bif k == k' then some (True,.int k (bits .andNot k a b))else none
  | .shl=>some (0≤b∧b≤k.bits,.int k (k.wrap (a * 2 ^ b.toNat)))
  | .shr=>some (0≤b∧b≤k.bits,.int k (a / 2 ^ b.toNat))
 | .string a,.string b=>
  match op with
  | .add=>some (a.size+b.size≤9223372036854775807,.string (a++b))
  | .eql=>some (True,.bool (decide (a=b)))
  | .neq=>some (True,.bool (!decide (a=b)))
  | .lss=>some (True,.bool (Op.bytesLess a.toList b.toList))
  | .leq=>some (True,.bool (Op.bytesLess a.toList b.toList || decide (a=b)))
  | .gtr=>some (True,.bool (!(Op.bytesLess a.toList b.toList || decide (a=b))))
  | .geq=>some (True,.bool (!Op.bytesLess a.toList b.toList))
  |_=>none
 |_,_=>none
def cV(cfg:Nat→Nat)(d:Option Nat)(rg:ah)(σ:Store):aB→Option (Prop×AV×Store)
 | .mv x=>fo (ev rg x) fun v=>some (True,v,σ)
 | .pick c a b=>match ev rg c with
  | .v (.bool true)=>fo (ev rg a) fun v=>some (True,v,σ)
  | .v (.bool false)=>fo (ev rg b) fun v=>some (True,v,σ)
  |_=>none
 | .build z parts=>match vq (z.map .v) (pK rg parts)with
  |some l=>jL l fun l=>some (True,.agg l,σ)
  |none=>none
 | .br _ ag parts=>match rowsOf ag (bD rg parts)with
  |some rows=>match cfg (d.getD 0)with
   |0=>yc rows fun rows=>some (rows.length≤1000000,.sl true ag rows,σ)
   |3=>yc rows fun rows=>some (rows.length≤1000000,.fl ag rows,σ)
   |_=>none
  |none=>none
 | .load agg n x=>match ev rg x with
  | .lp t b o=>match bo σ t with
   |some (b',.cells l)=>match agg with
    |true=>bif Nat.ble (o+n) l.length then jL ((l.drop o).take n) (fun l2=>some (b=b',.agg l2,σ))else none
    |false=>match l[o]? with
     |some y=>fo y fun v=>some (b=b',v,σ)
     |none=>none
   |_=>none
  | .pc l=>match agg with
   |true=>bif Nat.ble n l.length then jL (l.take n) (fun l2=>some (True,.agg l2,σ))else none
   |false=>match l[0]? with
    |some y=>fo y fun v=>some (True,v,σ)
    |none=>none
  |_=>none
 | .store n x y=>match ev rg x,(ev rg y).cells? with
  | .lp t b o,some l'=>match bo σ t with
   |some (b',.cells l)=>bif Nat.beq l'.length n && l'.all AV.one && Nat.ble (o+n) l.length then jL (over l o l') (fun l2=>match rX σ t b (.cells l2)with
    |some af=>some (b=b',.v undef,af)
    |none=>none)else none
   |_=>none
  |_,_=>none
 | .oY x=>match ev rg x with
  | .lp t b o=>some (True,.lp t b o,σ)
  | .pc l=>some (True,.pc l,σ)
  |_=>none
 | .bin op x y=>match ev rg x,ev rg y with
  | .v a,.v b=>match Be op a b with
   |some (p,r)=>some (p,.v r,σ)
   |none=>none
  |_,_=>none
 | .ic neg k x y=>match Bz k (ev rg x) (ev rg y)with
  |some b=>some (True,.v (.bool (b ^^ neg)),σ)
  |none=>none
 | .eqs neg ks x y=>match(ev rg x).mQ,(ev rg y).mQ with
  |some xs,some ys=>match q5 ks xs ys with
   |some b=>some (True,.v (.bool (b ^^ neg)),σ)
   |none=>none
  |_,_=>none
 | .un op x=>match ev rg x with
  | .v a=>match I5 op a with
   |some r=>some (True,.v r,σ)
   |none=>none
  |_=>none
 | .lq k x=>match ev rg x with
  | .v (.int _ n)=>some (True,.v (.int k (k.wrap n)),σ)
  |_=>none
 | .pG x=>match ev rg x with
  | .v (.string s)=>some (True,.v (.string s),σ)
  |_=>none
 | .qh t x=>fo (ev rg x) fun v=>some (True,.kQ t v,σ)
 | .er fn first captured=>match mS (bD rg first),mS (bD rg captured)with
  |some a,some c=>some (True,.v (.func fn a.toArray c.toArray),σ)
  |_,_=>match fn with
   | .func f=>some (True,.cl f (bD rg first) (bD rg captured),σ)
   |_=>none
 | .slice ag x lo hi=>match nD (lo.map (ev rg)),nD (hi.map (ev rg))with
  |some lo,some hi=>match ev rg x with
   | .sl nn e rows=>some (e=ag∧0≤lo.getD 0∧lo.getD 0≤hi.getD rows.length∧hi.getD rows.length≤rows.length,.sl nn ag ((rows.take (hi.getD rows.length).toNat).drop (lo.getD 0).toNat),σ)
   |_=>none
  |_,_=>none
 | .kE off x=>match ev rg x with
  | .lp t b o=>some (True,.lp t b (o+off),σ)
  | .pc l=>some (True,.pc (l.drop off),σ)
  |_=>none
 | .field agg off n x=>match(ev rg x).mQ with
  |some l=>bif Nat.ble (off+n) l.length then(match agg with
   |true=>jL ((l.drop off).take n) fun l2=>some (True,.agg l2,σ)
   |false=>match l[off]? with
    |some y=>fo y fun v=>some (True,v,σ)
    |none=>none)else none
  |none=>none
 | .eY ag x i=>match ev rg i with
  | .v (.int _ i)=>match ev rg x with
   | .sl _ e rows=>some (e=ag∧0≤i∧i<rows.length,.pc (rows.getD i.toNat []),σ)
   | .own e _ _ _ _ rows=>some (e=ag∧0≤i∧i<rows.length,.pc (rows.getD i.toNat []),σ)
   | .ms t b o n _=>some (0≤i∧i<n,.lp t b (o+i.toNat * ag),σ)
   |_=>none
  |_=>none
 | .lJ n ag x i=>match ev rg i with
  | .v (.int _ i)=>match ev rg x with
   | .lp t b o=>some (0≤i∧i<n,.lp t b (o+i.toNat * ag),σ)
   | .pc l=>some (0≤i∧i<n,.pc (l.drop (i.toNat * ag)),σ)
   |_=>none
  |_=>none
 | .extract x i=>match ev rg x with
  | .aE xs=>match xs[i]? with
   |some y=>fo y fun v=>some (True,v,σ)
   |none=>none
  |_=>none
 | .len true x=>match ev rg x with
  | .v (.string s)=>some (True,.v (.int .i64 s.size),σ)
  |_=>none
 | .len false x=>match ev rg x with
  | .v (.slice _ n _)=>some (True,.v (.int .i64 n),σ)
  | .ms _ _ _ n _=>some (True,.v (.int .i64 n),σ)
  | .sl _ _ rows=>some (True,.v (.int .i64 rows.length),σ)
  | .own _ _ _ _ _ rows=>some (True,.v (.int .i64 rows.length),σ)
  |_=>none
 | .max2 x y=>match ev rg x,ev rg y with
  | .v a,.v b=>match wq false a b with
   |some r=>some (True,.v r,σ)
   |none=>none
  |_,_=>none
 | .min2 x y=>match ev rg x,ev rg y with
  | .v a,.v b=>match wq true a b with
   |some r=>some (True,.v r,σ)
   |none=>none
  |_,_=>none
 |_=>none
theorem WB{op:BinOp}{a b:Value}{p:Prop}{r:Value}{K:Value→Prop}(h:Be op a b=some (p,r))(hp:p)(k:K r):nS op a b K:=by
 unfold Be at h
 split at h
 ·rename_i q x q' y
  by_cases e:q=q'
  ·subst e
   cases op<;>simp only[beq_self_eq_true,cond_true,ZN,YH]at h<;>obtain⟨rfl,rfl⟩:=h<;>simp only[nS]
   all_goals grind
  ·have e':(q == q')=false:=by grind
   cases op<;>simp only[e',cond_false,reduceCtorEq,ZN,YH]at h<;>simp only[nS]
   case shl=>grind
   grind
 ·cases op<;>simp only[reduceCtorEq]at h<;>simp only[nS]
  all_goals(grind)
 grind
theorem rG{α:Type}{c:Bool}{o:Option α}{r:α}(h:(bif c then o else none)=some r):c=true∧o=some r:=by
 cases c with
 |true=>exact⟨rfl,h⟩
 |false=>cases h
theorem Bq{P:Program}[Glob P]{cfg:Nat→Nat}{d:Option Nat}{rg:ah}{σ af:Store}{op:aB}{p:Prop}{v:AV}{K:AV→Store→Prop}{E:List PanicEntry→Store→Prop}
  (h:cV cfg d rg σ op=some (p,v,af)) (hp:p) (k:K v af):ak P cfg d rg σ K E op:=by
 cases op with
 |mv x=>simp only[cV]at h;have:=ij h;cases this;exact k
 |pick c x y=>
  simp only[cV]at h
  simp only[ak]
  split at h
  ·rename_i e;rw[e];have:=ij h;grind
  ·rename_i e;rw[e];have:=ij h;grind
  grind
 |box t x=>cases h
 |alloc t z=>cases h
 |append t n k z x y=>cases h
 |call f args=>cases h
 |gz f args=>cases h
 |idxs x y=>cases h
 |bS op ty ti args=>cases h
 |exts op ty ti args=>cases h
 |panic x=>cases h
 |build z parts=>
  simp only[cV]at h
  simp only[ak]
  split at h
  ·rename_i l e;rw[e];have:=jn h;grind
  grind
 |br t ag parts=>
  simp only[cV]at h
  simp only[ak]
  split at h
  ·rename_i rows e
   rw[e]
   split at h
   ·rename_i e2;have:=sZ h;cases this;exact⟨hp,by simp only[e2];exact k⟩
   ·rename_i e2;have:=sZ h;cases this;exact⟨hp,by simp only[e2];exact k⟩
   grind
  grind
 |load agg n x=>
  simp only[cV]at h
  simp only[ak]
  split at h
  ·rename_i t b o e
   rw[e]
   split at h
   ·rename_i b' l e2
    simp only[e2]
    split at h
    ·obtain⟨h1,h⟩:=rG h
     have:=jn h
     cases this
     exact⟨hp,by simp only[YV];exact⟨ZW h1,k⟩⟩
    ·split at h
     ·rename_i y e3
      have:=ij h
      cases this
      exact⟨hp,by simp only[ZG,Za,e3];exact k⟩
     ·cases h
   ·cases h
  ·rename_i l e
   rw[e]
   split at h
   ·obtain⟨h1,h⟩:=rG h
    have:=jn h
    cases this
    simp only[YV];exact⟨ZW h1,k⟩
   ·split at h
    ·rename_i y e3
     have:=ij h
     cases this
     simp only[ZG,Za,e3];exact k
    ·cases h
  ·cases h
 |store n x y=>
  simp only[cV]at h
  simp only[ak]
  split at h
  ·rename_i t b o l' e1 e2
   rw[e1,e2]
   split at h
   ·rename_i b' l e3
    simp only[e3]
    obtain⟨h1,h⟩:=rG h
    simp only[ZP]at h1
    replace h:=jn h
    split at h
    case h_2=>cases h
    rename_i bE e4
    cases h
    rw[← Ar e4]at k
    exact⟨hp,Zm h1.1.1,h1.1.2,ZW h1.2,k⟩
   ·cases h
  ·cases h
 |oY x=>
  simp only[cV]at h
  simp only[ak]
  split at h
  ·rename_i e;rw[e];cases h;exact k
  ·rename_i e;rw[e];cases h;exact k
  ·cases h
 |bin op x y=>
  simp only[cV]at h
  simp only[ak]
  split at h
  ·rename_i a b e1 e2
   rw[e1,e2]
   split at h
   ·rename_i p' r e3;cases h;exact WB e3 hp k
   ·cases h
  ·cases h
 |ic neg q x y=>
  simp only[cV]at h
  simp only[ak]
  split at h
  ·rename_i b e;rw[e];cases h;exact k
  ·cases h
 |eqs neg ks x y=>
  simp only[cV]at h
  simp only[ak]
  split at h
  ·rename_i xs ys e1 e2
   rw[e1,e2]
   split at h
   ·rename_i b e;simp only[e];cases h;exact k
   ·cases h
  ·cases h
 |un op x=>
  simp only[cV]at h
  simp only[ak]
  split at h
  ·rename_i a e1
   rw[e1]
   split at h
   ·rename_i r e;simp only[e];cases h;exact k
   ·cases h
  ·cases h
 |lq q x=>
  simp only[cV]at h
  simp only[ak]
  split at h
  ·rename_i e;rw[e];cases h;exact k
  ·cases h
 |pG x=>
  simp only[cV]at h
  simp only[ak]
  split at h
  ·rename_i e;rw[e];cases h;exact k
  ·cases h
 |qh t x=>simp only[cV]at h;have:=ij h;cases this;exact k
 |er fn first captured=>
  simp only[cV]at h
  simp only[ak]
  split at h
  ·rename_i e1 e2;rw[e1,e2];cases h;exact k
  ·split at h
   ·cases h;first|(simp only[*];done)|(simp only[*];exact k)
   ·cases h
 |slice ag x lo hi=>
  simp only[cV]at h
  simp only[ak]
  split at h
  ·rename_i cm eu e1 e2
   rw[e1,e2]
   split at h
   ·rename_i nn e rows e3;simp only[e3];cases h;exact⟨hp.1,hp.2.1,hp.2.2.1,hp.2.2.2,k⟩
   ·cases h
  ·cases h
 |kE off x=>
  simp only[cV]at h
  simp only[ak]
  split at h
  ·rename_i e;rw[e];cases h;exact k
  ·rename_i e;rw[e];cases h;exact k
  ·cases h
 |field agg off n x=>
  simp only[cV]at h
  simp only[ak]
  split at h
  ·rename_i l e
   rw[e]
   obtain⟨h1,h⟩:=rG h
   refine⟨ZW h1,?_⟩
   split at h
   ·have:=jn h;cases this;exact k
   ·split at h
    ·rename_i y e3
     have:=ij h
     cases this
     simp only[ZG,Za,e3];exact k
    ·cases h
  ·cases h
 |eY ag x i=>
  simp only[cV]at h
  simp only[ak]
  split at h
  ·rename_i q j e1
   rw[e1]
   split at h
   ·rename_i e;simp only[e];cases h;exact⟨hp.1,hp.2.1,hp.2.2,k⟩
   ·rename_i e;simp only[e];cases h;exact⟨hp.1,hp.2.1,hp.2.2,k⟩
   ·rename_i e;simp only[e];cases h;exact⟨hp.1,hp.2,k⟩
   ·cases h
  ·cases h
 |lJ n ag x i=>
  simp only[cV]at h
  simp only[ak]
  split at h
  ·rename_i q j e1
   rw[e1]
   split at h
   ·rename_i e;simp only[e];cases h;exact⟨hp.1,hp.2,k⟩
   ·rename_i e;simp only[e];cases h;exact⟨hp.1,hp.2,k⟩
   ·cases h
  ·cases h
 |extract x i=>
  simp only[cV]at h
  simp only[ak]
  split at h
  ·rename_i xs e1
   rw[e1]
   split at h
   ·rename_i y e;simp only[e];have:=ij h;cases this;exact k
   ·cases h
  ·cases h
 |len s x=>
  cases s with
  |true=>
   simp only[cV]at h
   simp only[ak]
   split at h
   ·rename_i e;rw[e];cases h;exact k
   ·cases h
  |false=>
   simp only[cV]at h
   simp only[ak]
   split at h
   ·rename_i e;rw[e];cases h;exact k
   ·rename_i e;rw[e];cases h;exact k
   ·rename_i e;rw[e];cases h;exact fun _=>k
   ·rename_i e;rw[e];cases h;exact fun _=>k
   ·cases h
 |max2 x y=>
  simp only[cV]at h
  simp only[ak]
  split at h
  ·rename_i a b e1 e2
   rw[e1,e2]
   split at h
   ·rename_i r e;simp only[e];cases h;exact k
   ·cases h
  ·cases h
 |min2 x y=>
  simp only[cV]at h
  simp only[ak]
  split at h
  ·rename_i a b e1 e2
   rw[e1,e2]
   split at h
   ·rename_i r e;simp only[e];cases h;exact k
   ·cases h
  ·cases h
def dR(σ af:Store):Prop:=(∀ t,bo σ t=bo af t)∧σ.Perm af
theorem dR.refl(σ:Store):dR σ σ:=⟨fun _=>rfl,.refl _⟩
theorem dR.symm{σ af:Store}(h:dR σ af):dR af σ:=⟨fun t=>(h.1 t).symm,h.2.symm⟩
theorem dR.trans{a b c:Store}(h:dR a b)(k:dR b c):dR a c:=⟨fun t=>(h.1 t).trans (k.1 t),h.2.trans k.2⟩
theorem qe(t b:Nat)(x:aG)(σ:Store)(s:Nat):bo ((t,b,x)::σ) s=if t=s then some (b,x)else bo σ s:=by
 simp only[bo]
 simp_all
theorem dR.cons{σ af:Store}(e:Nat×Nat×aG)(h:dR σ af):dR (e::σ) (e::af):=by
 obtain⟨t,b,x⟩:=e
 exact⟨fun s=>by rw[qe,qe,h.1 s],h.2.cons _⟩
theorem dR.swap{t t' b b':Nat}{x x':aG}(h:t≠t')(σ:Store):dR ((t,b,x)::(t',b',x')::σ) ((t',b',x')::(t,b,x)::σ):=
 ⟨fun s=>by
  simp only[qe]
  grind,List.Perm.swap _ _ _⟩
theorem wj{t b:Nat}{x:aG}:∀ {σ:Store},bo σ t=some (b,x)→∀ b' x' s,bo (eB σ t b' x') s=if t=s then some (b',x')else bo σ s
 |[],h,_,_,_=>by cases h
 |(i,c,y)::σ,h,b',x',s=>by
  rw[qe]at h
  simp only[eB]
  cases hb:Nat.beq i t with
  |true=>
   obtain rfl:=Zm hb
   simp only[cond_true,qe]
   grind
  |false=>
   have bB:i≠t:=fun e=>by simp_all
   rw[Z6 bB]at h
   simp only[cond_false,qe,wj h b' x' s]
   grind
theorem dR.eB{σ af:Store}(h:dR σ af){t b:Nat}{x:aG}(hb:bo σ t=some (b,x))(b':Nat)(x':aG):dR (Sx.eB σ t b' x') (Sx.eB af t b' x'):=by
 have iS:bo af t=some (b,x):=(h.1 t).symm.trans hb
 refine⟨fun s=>by rw[wj hb,wj iS,h.1 s],?_⟩
 obtain⟨p,q,e,k⟩:=ur hb
 obtain⟨p',q',e',k'⟩:=ur iS
 rw[k,k']
 have hp:=h.2
 rw[e,e']at hp
 have h1:((t,b,x)::(p++q)).Perm ((t,b,x)::(p'++q')):=(List.perm_middle.symm.trans hp).trans List.perm_middle
 exact(List.perm_middle.trans ((h1.cons_inv).cons _)).trans List.perm_middle.symm
theorem Inv.perm{P:Program}[Glob P]{M:Mem}{w0:Base}{w:World}{σ af:Store}(hI:Inv P M w0 σ w)(h:σ.Perm af):Inv P M w0 af w:=
 ⟨hI.os,hI.tape,hI.output,hI.size,hI.old,hI.cQ,fun e he=>hI.st e (h.mem_iff.2 he),((h.map _).nodup_iff).1 hI.nd,hI.gl,hI.gw,hI.bm⟩
theorem aMN{P:Program}[Glob P]{cfg:Nat→Nat}{d:Option Nat}{rg:ah}{σ:Store}{K:AV→Prop}{op:aB}(hl:op.cls=0)(h:aK P cfg d rg σ K op):
  ∃ x,K x∧∀ (af:Store) (K':AV→Prop),K' x→aK P cfg d rg af K' op:=by
 cases op with
 |box t x=>exact h.elim
 |alloc t z=>exact h.elim
 |store n x y=>exact h.elim
 |append t n k z x y=>exact h.elim
 |exts op ty ti args=>exact h.elim
 |panic x=>exact h.elim
 |bS op ty ti args=>obtain⟨r,hp,hk⟩:=h;exact⟨r,hk,fun af K' h=>⟨r,hp,h⟩⟩
 |call f args=>obtain⟨r,hp,hk⟩:=h;exact⟨r,hk,fun af K' h=>⟨r,hp,h⟩⟩
 |gz f args=>
  simp only[aK]at h
  simp only[aK,ak]
  split at h
  ·rename_i g b c he
   obtain⟨dJ,r,hp,hk⟩:=h
   (try rw[he])
   exact⟨r,hk,fun af K' h=>⟨dJ,r,hp,h⟩⟩
  ·rename_i g b c he
   obtain⟨dJ,r,hp,hk⟩:=h
   (try rw[he])
   exact⟨r,hk,fun af K' h=>⟨dJ,r,hp,h⟩⟩
  grind
 |br t ag parts=>
  simp only[aK]at h
  simp only[aK,ak]
  split at h
  ·rename_i rows he
   (try rw[he])
   obtain⟨hn,h⟩:=h
   split at h
   ·rename_i e;exact⟨_,h,fun af K' hk=>⟨hn,by first|exact hk|(rw[e];exact hk)|(simp[e];exact hk)⟩⟩
   ·rename_i e;exact⟨_,h,fun af K' hk=>⟨hn,by first|exact hk|(rw[e];exact hk)|(simp[e];exact hk)⟩⟩
   ·exact h.elim
  ·exact h.elim
 |len s x=>
  cases s<;>simp only[aK]at h<;>simp only[aK]
  ·split at h
   ·rename_i b n c he;(try rw[he]);exact⟨_,h,fun af K' hk=>hk⟩
   ·rename_i tg b o n c he;(try rw[he]);exact⟨_,h,fun af K' hk=>hk⟩
   ·rename_i nn ez rows he;(try rw[he]);exact⟨_,h,fun af K' hk=>hk⟩
   ·rename_i ez tg b u c rows he;(try rw[he]);exact⟨_,h,fun af K' hk=>hk⟩
   ·exact h.elim
  ·split at h
   ·rename_i s he;(try rw[he]);exact⟨_,h,fun af K' hk=>hk⟩
   ·exact h.elim
 |mv x=>exact⟨_,h,fun af K' hk=>hk⟩
 |qh t x=>exact⟨_,h,fun af K' hk=>hk⟩
 |pick c x y=>
  simp only[aK,ak]at h
  simp only[aK,ak]
  split at h
  ·rename_i t he;(try rw[he]);exact⟨_,h,fun af K' hk=>hk⟩
  ·exact h.elim
 |build z parts=>
  simp only[aK,ak]at h
  simp only[aK,ak]
  split at h
  ·rename_i t he;(try rw[he]);exact⟨_,h,fun af K' hk=>hk⟩
  ·exact h.elim
 |load g n x=>cases hl
 |oY x=>
  simp only[aK,ak]at h
  simp only[aK,ak]
  split at h<;>first|exact h.elim|(rename_i he;(try rw[he]);exact⟨_,h,fun af K' hk=>hk⟩)
 |bin op x y=>
  simp only[aK,ak]at h
  simp only[aK,ak]
  split at h
  ·rename_i u v hu hv
   (try rw[hu,hv])
   obtain⟨z,hz,oP⟩:=Rw h
   exact⟨.v z,hz,fun af K' hk=>oP _ hk⟩
  ·exact h.elim
 |ic n k x y=>
  simp only[aK,ak]at h
  simp only[aK,ak]
  split at h
  ·rename_i t he;(try rw[he]);exact⟨_,h,fun af K' hk=>hk⟩
  ·exact h.elim
 |eqs n k x y=>
  simp only[aK,ak]at h
  simp only[aK,ak]
  split at h
  ·rename_i xs ys h1 h2
   (try rw[h1,h2])
   split at h
   ·rename_i t he;(try simp only[he]);exact⟨_,h,fun af K' hk=>hk⟩
   ·exact h.elim
  ·exact h.elim
 |un op x=>
  simp only[aK,ak]at h
  simp only[aK,ak]
  split at h
  ·rename_i u hu
   (try rw[hu])
   split at h
   ·rename_i t he;(try simp only[he]);exact⟨_,h,fun af K' hk=>hk⟩
   ·exact h.elim
  ·exact h.elim
 |lq k x=>
  simp only[aK,ak]at h
  simp only[aK,ak]
  split at h
  ·rename_i k' n he;(try rw[he]);exact⟨_,h,fun af K' hk=>hk⟩
  ·exact h.elim
 |pG x=>
  simp only[aK,ak]at h
  simp only[aK,ak]
  split at h
  ·rename_i s he;(try rw[he]);exact⟨_,h,fun af K' hk=>hk⟩
  ·exact h.elim
 |er fn first captured=>
  simp only[aK,ak]at h
  simp only[aK,ak]
  split at h
  ·rename_i u v h1 h2;(try rw[h1,h2]);exact⟨_,h,fun af K' hk=>hk⟩
  ·split at h
   ·exact⟨_,h,fun af K' hk=>hk⟩
   ·exact h.elim
 |slice ag x lo hi=>
  simp only[aK,ak]at h
  simp only[aK,ak]
  split at h
  ·rename_i cm eu h1 h2
   (try rw[h1,h2])
   split at h
   ·rename_i nn e rows he;(try simp only[he]);exact⟨_,h.2.2.2.2,fun af K' hk=>⟨h.1,h.2.1,h.2.2.1,h.2.2.2.1,hk⟩⟩
   ·rename_i e tg b u c rows he;(try simp only[he]);exact⟨_,h.2.2.2.2,fun af K' hk=>⟨h.1,h.2.1,h.2.2.1,h.2.2.2.1,hk⟩⟩
   ·rename_i he;(try simp only[he]);exact⟨_,h.2.2,fun af K' hk=>⟨h.1,h.2.1,hk⟩⟩
   ·exact h.elim
  ·exact h.elim
 |kE off x=>
  simp only[aK,ak]at h
  simp only[aK,ak]
  split at h<;>first|exact h.elim|(rename_i he;(try rw[he]);exact⟨_,h,fun af K' hk=>hk⟩)
 |field g o n x=>
  simp only[aK,ak]at h
  simp only[aK,ak]
  split at h
  ·rename_i l hl
   (try rw[hl])
   obtain⟨ax,h⟩:=h
   cases g with
   |true=>simp only[YV]at h ⊢;exact⟨_,h,fun af K' hk=>⟨ax,hk⟩⟩
   |false=>
    simp only[ZG,Za]at h ⊢
    split at h
    ·rename_i y hy;(try rw[hy]);exact⟨_,h,fun af K' hk=>⟨ax,hk⟩⟩
    ·exact h.elim
  ·exact h.elim
 |eY ag x i=>
  simp only[aK,ak]at h
  simp only[aK,ak]
  split at h
  ·rename_i k j hi
   (try rw[hi])
   split at h
   ·rename_i nn e rows he;(try simp only[he]);exact⟨_,h.2.2.2,fun af K' hk=>⟨h.1,h.2.1,h.2.2.1,hk⟩⟩
   ·rename_i e tg b u c rows he;(try simp only[he]);exact⟨_,h.2.2.2,fun af K' hk=>⟨h.1,h.2.1,h.2.2.1,hk⟩⟩
   ·rename_i tg b o n c he;(try simp only[he]);exact⟨_,h.2.2,fun af K' hk=>⟨h.1,h.2.1,hk⟩⟩
   ·exact h.elim
  ·exact h.elim
 |lJ n ag x i=>
  simp only[aK,ak]at h
  simp only[aK,ak]
  split at h
  ·rename_i k j hi
   (try rw[hi])
   split at h
   ·rename_i tg b o he;(try simp only[he]);exact⟨_,h.2.2,fun af K' hk=>⟨h.1,h.2.1,hk⟩⟩
   ·rename_i l he;(try simp only[he]);exact⟨_,h.2.2,fun af K' hk=>⟨h.1,h.2.1,hk⟩⟩
   ·rename_i g o he;(try simp only[he]);obtain⟨l,ha,h0,h1,h2,h3⟩:=h;exact⟨_,h3,fun af K' hk=>⟨l,ha,h0,h1,h2,hk⟩⟩
   ·exact h.elim
  ·exact h.elim
 |idxs x i=>
  simp only[aK,ak]at h
  simp only[aK,ak]
  split at h
  ·rename_i k j s h1 h2
   (try rw[h1,h2])
   obtain⟨ax,h⟩:=h
   exact⟨_,h,fun af K' hk=>⟨ax,hk⟩⟩
  ·exact h.elim
 |extract x i=>
  simp only[aK,ak]at h
  simp only[aK,ak]
  split at h
  ·rename_i xs he
   (try rw[he])
   split at h
   ·rename_i y hy;(try simp only[hy]);exact⟨_,h,fun af K' hk=>hk⟩
   ·exact h.elim
  ·rename_i xs he
   (try rw[he])
   split at h
   ·rename_i y hy;(try simp only[hy]);exact⟨_,h,fun af K' hk=>hk⟩
   ·exact h.elim
  ·exact h.elim
 |max2 x y=>
  simp only[aK,ak]at h
  simp only[aK,ak]
  split at h
  ·rename_i u v h1 h2
   (try rw[h1,h2])
   split at h
   ·rename_i t he;(try simp only[he]);exact⟨_,h,fun af K' hk=>hk⟩
   ·exact h.elim
  ·exact h.elim
 |min2 x y=>
  simp only[aK,ak]at h
  simp only[aK,ak]
  split at h
  ·rename_i u v h1 h2
   (try rw[h1,h2])
   split at h
   ·rename_i t he;(try simp only[he]);exact⟨_,h,fun af K' hk=>hk⟩
   ·exact h.elim
  ·exact h.elim
end Go.Sx
