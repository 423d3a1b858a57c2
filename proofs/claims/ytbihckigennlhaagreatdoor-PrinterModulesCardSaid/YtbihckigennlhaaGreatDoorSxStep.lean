/-
  The layer Sx, twelfth part: single steps that are computed.
-/
import Derived.Test.YtbihckigennlhaaGreatDoorSxDraw
set_option linter.unusedVariables false
set_option linter.unusedSimpArgs false
set_option linter.unusedSectionVars false
namespace Go.Sx
open Go.RowKit
def fo{α:Type}(x:AV)(k:AV→Option α):Option α:=
 match x with
 | .v (.int q n)=>k (.v (.int q n))
 | .v (.bool b)=>k (.v (.bool b))
 | .v (.string s)=>k (.v (.string s))
 | .v y=>k (.v y)
 | .any=>k .any
 | .agg xs=>k (.agg xs)
 | .aI xs=>k (.aI xs)
 | .sl nn e rows=>k (.sl nn e rows)
 | .own e t b u c rows=>k (.own e t b u c rows)
 | .ms t b o n c=>k (.ms t b o n c)
 | .pc l=>k (.pc l)
 | .gM t x=>k (.gM t x)
 | .lp t b o=>k (.lp t b o)
 | .eA t b=>k (.eA t b)
 | .ai q=>k (.ai q)
 | .cl f a c=>k (.cl f a c)
 | .fl e rows=>k (.fl e rows)
theorem wZ{α:Type}{x:AV}{k:AV→Option α}{r:α}(h:fo x k=some r):k x=some r:=by
 unfold fo at h
 split at h<;>first|exact h|cases h
def jB{α:Type}:List AV→(List AV→Option α)→Option α
 |[],k=>k []
 |x::l,k=>fo x fun y=>jB l fun l'=>k (y::l')
theorem iT{α:Type}:∀ {l:List AV} {k:List AV→Option α} {r:α},jB l k=some r→k l=some r
 |[],_,_,h=>h
 |x::l,k,r,h=>iT (l:=l) (k:=fun l'=>k (x::l')) (wZ (k:=fun y=>jB l fun l'=>k (y::l')) h)
def xJ{α:Type}:List (List AV)→(List (List AV)→Option α)→Option α
 |[],k=>k []
 |x::l,k=>jB x fun y=>xJ l fun l'=>k (y::l')
theorem sB{α:Type}:∀ {l:List (List AV)} {k:List (List AV)→Option α} {r:α},xJ l k=some r→k l=some r
 |[],_,_,h=>h
 |x::l,k,r,h=>sB (l:=l) (k:=fun l'=>k (x::l')) (iT (k:=fun y=>xJ l fun l'=>k (y::l')) h)
def uc:Store→Nat→Nat→bN→Option Store
 |[],_,_,_=>none
 |(i,b',x')::r,t,b,x=>bif Nat.beq i t then some ((t,b,x)::r)else match uc r t b x with
  |some r'=>some ((i,b',x')::r')
  |none=>none
theorem Ct:∀ {σ:Store} {t b:Nat} {x:bN} {σ':Store},uc σ t b x=some σ'→ct σ t b x=σ'
 |[],_,_,_,_,h=>by cases h
 |(i,b',x')::r,t,b,x,σ',h=>by
  simp only[uc]at h
  simp only[ct]
  cases hb:Nat.beq i t with
  |true=>rw[hb]at h;simpa using h
  |false=>
   rw[hb]at h
   simp only[XW]at h ⊢
   split at h
   ·rename_i r' hr;cases h;rw[Ct hr]
   ·cases h
def Av(op:BinOp):Value→Value→Option (Prop×Value)
 | .int k a,.int k' b=>
  match op with
  | .add=>bif k == k' then some (True,.int k (k.wrap (a+b)))else none
  | .sub=>bif k == k' then some (True,.int k (k.wrap (a-b)))else none
  | .mul=>bif k == k' then some (True,.int k (k.wrap (a * b)))else none
  | .quo=>bif k == k' then some (b≠0,.int k (k.wrap (a.tdiv b)))else none
  | .rem=>bif k == k' then some (b≠0,.int k (a.tmod b))else none
  | .eql=>bif k == k' then some (True,.bool (decide (a=b)))else none
  | .neq=>bif k == k' then some (True,.bool (!decide (a=b)))else none
  | .lss=>bif k == k' then some (True,.bool (decide (a<b)))else none
  | .leq=>bif k == k' then some (True,.bool (decide (a≤b)))else none
  | .gtr=>bif k == k' then some (True,.bool (decide (b<a)))else none
  | .geq=>bif k == k' then some (True,.bool (decide (b≤a)))else none
  | .and=>bif k == k' then some (True,.int k (bits .and k a b))else none
  | .or=>bif k == k' then some (True,.int k (bits .or k a b))else none
  | .xor=>bif k == k' then some (True,.int k (bits .xor k a b))else none
  | .andNot=>bif k == k' then some (True,.int k (bits .andNot k a b))else none
  | .shl=>some (0≤b∧b≤k.bits,.int k (k.wrap (a * 2 ^ b.toNat)))
  | .shr=>some (0≤b∧b≤k.bits,.int k (a / 2 ^ b.toNat))
 | .string a,.string b=>
  match op with
  | .add=>some (a.size+b.size≤9223372036854775807,.string (a++b))
  | .eql=>some (True,.bool (decide (a=b)))
  | .neq=>some (True,.bool (!decide (a=b)))
  | .lss=>some (True,.bool (Op.bytesLess a.toList b.toList))
  | .leq=>some (True,.bool (Op.bytesLess a.toList b.toList || decide (a=b)))
  | .gtr=>some (True,.bool (!(Op.bytesLess a.toList b.toList || decide (a=b))))
  | .geq=>some (True,.bool (!Op.bytesLess a.toList b.toList))
  |_=>none
 |_,_=>none
def cR(cfg:Nat→Nat)(d:Option Nat)(rg:ae)(σ:Store):aw→Option (Prop×AV×Store)
 | .mv x=>fo (ev rg x) fun v=>some (True,v,σ)
 | .pick c a b=>match ev rg c with
  | .v (.bool true)=>fo (ev rg a) fun v=>some (True,v,σ)
  | .v (.bool false)=>fo (ev rg b) fun v=>some (True,v,σ)
  |_=>none
 | .build z parts=>match uX (z.map .v) (oY rg parts)with
  |some l=>jB l fun l=>some (True,.agg l,σ)
  |none=>none
 | .aZ _ ag parts=>match rowsOf ag (aU rg parts)with
  |some rows=>match cfg (d.getD 0)with
   |0=>xJ rows fun rows=>some (rows.length≤1000000,.sl true ag rows,σ)
   |3=>xJ rows fun rows=>some (rows.length≤1000000,.fl ag rows,σ)
   |_=>none
  |none=>none
 | .load agg n x=>match ev rg x with
  | .lp t b o=>match aN σ t with
   |some (b',.cells l)=>match agg with
    |true=>bif Nat.ble (o+n) l.length then jB ((l.drop o).take n) (fun l2=>some (b=b',.agg l2,σ))else none
    |false=>match l[o]? with
     |some y=>fo y fun v=>some (b=b',v,σ)
     |none=>none
   |_=>none
  | .pc l=>match agg with
   |true=>bif Nat.ble n l.length then jB (l.take n) (fun l2=>some (True,.agg l2,σ))else none
   |false=>match l[0]? with
    |some y=>fo y fun v=>some (True,v,σ)
    |none=>none
  |_=>none
 | .store n x y=>match ev rg x,(ev rg y).cells? with
  | .lp t b o,some l'=>match aN σ t with
   |some (b',.cells l)=>bif Nat.beq l'.length n && l'.all AV.one && Nat.ble (o+n) l.length then jB (over l o l') (fun l2=>match uc σ t b (.cells l2)with
    |some σ'=>some (b=b',.v undef,σ')
    |none=>none)else none
   |_=>none
  |_,_=>none
 | .j6 x=>match ev rg x with
  | .lp t b o=>some (True,.lp t b o,σ)
  | .pc l=>some (True,.pc l,σ)
  |_=>none
 | .bin op x y=>match ev rg x,ev rg y with
  | .v a,.v b=>match Av op a b with
   |some (p,r)=>some (p,.v r,σ)
   |none=>none
  |_,_=>none
 | .gZ neg k x y=>match AH k (ev rg x) (ev rg y)with
  |some b=>some (True,.v (.bool (b ^^ neg)),σ)
  |none=>none
 | .eqs neg ks x y=>match(ev rg x).ml,(ev rg y).ml with
  |some xs,some ys=>match qq ks xs ys with
   |some b=>some (True,.v (.bool (b ^^ neg)),σ)
   |none=>none
  |_,_=>none
 | .un op x=>match ev rg x with
  | .v a=>match GU op a with
   |some r=>some (True,.v r,σ)
   |none=>none
  |_=>none
 | .ly k x=>match ev rg x with
  | .v (.int _ n)=>some (True,.v (.int k (k.wrap n)),σ)
  |_=>none
 | .oU x=>match ev rg x with
  | .v (.string s)=>some (True,.v (.string s),σ)
  |_=>none
 | .lT t x=>fo (ev rg x) fun v=>some (True,.gM t v,σ)
 | .gi fn first captured=>match lB (aU rg first),lB (aU rg captured)with
  |some a,some c=>some (True,.v (.func fn a.toArray c.toArray),σ)
  |_,_=>match fn with
   | .func f=>some (True,.cl f (aU rg first) (aU rg captured),σ)
   |_=>none
 | .slice ag x lo hi=>match oe (lo.map (ev rg)),oe (hi.map (ev rg))with
  |some lo,some hi=>match ev rg x with
   | .sl nn e rows=>some (e=ag∧0≤lo.getD 0∧lo.getD 0≤hi.getD rows.length∧hi.getD rows.length≤rows.length,.sl nn ag ((rows.take (hi.getD rows.length).toNat).drop (lo.getD 0).toNat),σ)
   |_=>none
  |_,_=>none
 | .iS off x=>match ev rg x with
  | .lp t b o=>some (True,.lp t b (o+off),σ)
  | .pc l=>some (True,.pc (l.drop off),σ)
  |_=>none
 | .field agg off n x=>match(ev rg x).ml with
  |some l=>bif Nat.ble (off+n) l.length then(match agg with
   |true=>jB ((l.drop off).take n) fun l2=>some (True,.agg l2,σ)
   |false=>match l[off]? with
    |some y=>fo y fun v=>some (True,v,σ)
    |none=>none)else none
  |none=>none
 | .eH ag x i=>match ev rg i with
  | .v (.int _ i)=>match ev rg x with
   | .sl _ e rows=>some (e=ag∧0≤i∧i<rows.length,.pc (rows.getD i.toNat []),σ)
   | .own e _ _ _ _ rows=>some (e=ag∧0≤i∧i<rows.length,.pc (rows.getD i.toNat []),σ)
   | .ms t b o n _=>some (0≤i∧i<n,.lp t b (o+i.toNat * ag),σ)
   |_=>none
  |_=>none
 | .iH n ag x i=>match ev rg i with
  | .v (.int _ i)=>match ev rg x with
   | .lp t b o=>some (0≤i∧i<n,.lp t b (o+i.toNat * ag),σ)
   | .pc l=>some (0≤i∧i<n,.pc (l.drop (i.toNat * ag)),σ)
   |_=>none
  |_=>none
 | .extract x i=>match ev rg x with
  | .aI xs=>match xs[i]? with
   |some y=>fo y fun v=>some (True,v,σ)
   |none=>none
  |_=>none
 | .len true x=>match ev rg x with
  | .v (.string s)=>some (True,.v (.int .i64 s.size),σ)
  |_=>none
 | .len false x=>match ev rg x with
  | .v (.slice _ n _)=>some (True,.v (.int .i64 n),σ)
  | .ms _ _ _ n _=>some (True,.v (.int .i64 n),σ)
  | .sl _ _ rows=>some (True,.v (.int .i64 rows.length),σ)
  | .own _ _ _ _ _ rows=>some (True,.v (.int .i64 rows.length),σ)
  |_=>none
 | .max2 x y=>match ev rg x,ev rg y with
  | .v a,.v b=>match vN false a b with
   |some r=>some (True,.v r,σ)
   |none=>none
  |_,_=>none
 | .min2 x y=>match ev rg x,ev rg y with
  | .v a,.v b=>match vN true a b with
   |some r=>some (True,.v r,σ)
   |none=>none
  |_,_=>none
 |_=>none
theorem TR{op:BinOp}{a b:Value}{p:Prop}{r:Value}{K:Value→Prop}(h:Av op a b=some (p,r))(hp:p)(k:K r):mW op a b K:=by
 unfold Av at h
 split at h
 ·rename_i q x q' y
  by_cases e:q=q'
  ·subst e
   cases op<;>simp only[beq_self_eq_true,cond_true,Z5,Y6]at h<;>obtain⟨rfl,rfl⟩:=h<;>simp only[mW]
   case shl=>exact⟨hp.1,hp.2,k⟩
   case shr=>exact⟨hp.1,hp.2,k⟩
   case quo=>exact⟨trivial,hp,k⟩
   case rem=>exact⟨trivial,hp,k⟩
   all_goals exact⟨trivial,k⟩
  ·have e':(q == q')=false:=by simpa using e
   cases op<;>simp only[e',XW,reduceCtorEq,Z5,Y6]at h<;>simp only[mW]
   case shl=>obtain⟨rfl,rfl⟩:=h;exact⟨hp.1,hp.2,k⟩
   case shr=>obtain⟨rfl,rfl⟩:=h;exact⟨hp.1,hp.2,k⟩
 ·cases op<;>simp only[reduceCtorEq]at h<;>simp only[mW]
  case add=>cases h;exact⟨hp,k⟩
  all_goals(cases h;exact k)
 ·cases h
theorem po{α:Type}{c:Bool}{o:Option α}{r:α}(h:(bif c then o else none)=some r):c=true∧o=some r:=by
 cases c with
 |true=>exact⟨rfl,h⟩
 |false=>cases h
theorem AE{P:Program}[Glob P]{cfg:Nat→Nat}{d:Option Nat}{rg:ae}{σ σ':Store}{op:aw}{p:Prop}{v:AV}{K:AV→Store→Prop}{E:List PanicEntry→Store→Prop}
  (h:cR cfg d rg σ op=some (p,v,σ')) (hp:p) (k:K v σ'):aj P cfg d rg σ K E op:=by
 cases op with
 |mv x=>simp only[cR]at h;have:=wZ h;cases this;exact k
 |pick c x y=>
  simp only[cR]at h
  simp only[aj]
  split at h
  ·rename_i e;rw[e];have:=wZ h;cases this;exact k
  ·rename_i e;rw[e];have:=wZ h;cases this;exact k
  ·cases h
 |box t x=>cases h
 |alloc t z=>cases h
 |append t n k z x y=>cases h
 |call f args=>cases h
 |dA f args=>cases h
 |idxs x y=>cases h
 |cp op ty ti args=>cases h
 |exts op ty ti args=>cases h
 |panic x=>cases h
 |build z parts=>
  simp only[cR]at h
  simp only[aj]
  split at h
  ·rename_i l e;rw[e];have:=iT h;cases this;exact k
  ·cases h
 |aZ t ag parts=>
  simp only[cR]at h
  simp only[aj]
  split at h
  ·rename_i rows e
   rw[e]
   split at h
   ·rename_i e2;have:=sB h;cases this;exact⟨hp,by simp only[e2];exact k⟩
   ·rename_i e2;have:=sB h;cases this;exact⟨hp,by simp only[e2];exact k⟩
   ·cases h
  ·cases h
 |load agg n x=>
  simp only[cR]at h
  simp only[aj]
  split at h
  ·rename_i t b o e
   rw[e]
   split at h
   ·rename_i b' l e2
    simp only[e2]
    split at h
    ·obtain⟨h1,h⟩:=po h
     have:=iT h
     cases this
     exact⟨hp,by simp only[Y7];exact⟨Z8 h1,k⟩⟩
    ·split at h
     ·rename_i y e3
      have:=wZ h
      cases this
      exact⟨hp,by simp only[ZS,Zt,e3];exact k⟩
     ·cases h
   ·cases h
  ·rename_i l e
   rw[e]
   split at h
   ·obtain⟨h1,h⟩:=po h
    have:=iT h
    cases this
    simp only[Y7];exact⟨Z8 h1,k⟩
   ·split at h
    ·rename_i y e3
     have:=wZ h
     cases this
     simp only[ZS,Zt,e3];exact k
    ·cases h
  ·cases h
 |store n x y=>
  simp only[cR]at h
  simp only[aj]
  split at h
  ·rename_i t b o l' e1 e2
   rw[e1,e2]
   split at h
   ·rename_i b' l e3
    simp only[e3]
    obtain⟨h1,h⟩:=po h
    simp only[Z0]at h1
    replace h:=iT h
    split at h
    case h_2=>cases h
    rename_i σ2 e4
    cases h
    rw[← Ct e4]at k
    exact⟨hp,ZL h1.1.1,h1.1.2,Z8 h1.2,k⟩
   ·cases h
  ·cases h
 |j6 x=>
  simp only[cR]at h
  simp only[aj]
  split at h
  ·rename_i e;rw[e];cases h;exact k
  ·rename_i e;rw[e];cases h;exact k
  ·cases h
 |bin op x y=>
  simp only[cR]at h
  simp only[aj]
  split at h
  ·rename_i a b e1 e2
   rw[e1,e2]
   split at h
   ·rename_i p' r e3;cases h;exact TR e3 hp k
   ·cases h
  ·cases h
 |gZ neg q x y=>
  simp only[cR]at h
  simp only[aj]
  split at h
  ·rename_i b e;rw[e];cases h;exact k
  ·cases h
 |eqs neg ks x y=>
  simp only[cR]at h
  simp only[aj]
  split at h
  ·rename_i xs ys e1 e2
   rw[e1,e2]
   split at h
   ·rename_i b e;simp only[e];cases h;exact k
   ·cases h
  ·cases h
 |un op x=>
  simp only[cR]at h
  simp only[aj]
  split at h
  ·rename_i a e1
   rw[e1]
   split at h
   ·rename_i r e;simp only[e];cases h;exact k
   ·cases h
  ·cases h
 |ly q x=>
  simp only[cR]at h
  simp only[aj]
  split at h
  ·rename_i e;rw[e];cases h;exact k
  ·cases h
 |oU x=>
  simp only[cR]at h
  simp only[aj]
  split at h
  ·rename_i e;rw[e];cases h;exact k
  ·cases h
 |lT t x=>simp only[cR]at h;have:=wZ h;cases this;exact k
 |gi fn first captured=>
  simp only[cR]at h
  simp only[aj]
  split at h
  ·rename_i e1 e2;rw[e1,e2];cases h;exact k
  ·split at h
   ·cases h;first|(simp only[*];done)|(simp only[*];exact k)
   ·cases h
 |slice ag x lo hi=>
  simp only[cR]at h
  simp only[aj]
  split at h
  ·rename_i bW dU e1 e2
   rw[e1,e2]
   split at h
   ·rename_i nn e rows e3;simp only[e3];cases h;exact⟨hp.1,hp.2.1,hp.2.2.1,hp.2.2.2,k⟩
   ·cases h
  ·cases h
 |iS off x=>
  simp only[cR]at h
  simp only[aj]
  split at h
  ·rename_i e;rw[e];cases h;exact k
  ·rename_i e;rw[e];cases h;exact k
  ·cases h
 |field agg off n x=>
  simp only[cR]at h
  simp only[aj]
  split at h
  ·rename_i l e
   rw[e]
   obtain⟨h1,h⟩:=po h
   refine⟨Z8 h1,?_⟩
   split at h
   ·have:=iT h;cases this;exact k
   ·split at h
    ·rename_i y e3
     have:=wZ h
     cases this
     simp only[ZS,Zt,e3];exact k
    ·cases h
  ·cases h
 |eH ag x i=>
  simp only[cR]at h
  simp only[aj]
  split at h
  ·rename_i q j e1
   rw[e1]
   split at h
   ·rename_i e;simp only[e];cases h;exact⟨hp.1,hp.2.1,hp.2.2,k⟩
   ·rename_i e;simp only[e];cases h;exact⟨hp.1,hp.2.1,hp.2.2,k⟩
   ·rename_i e;simp only[e];cases h;exact⟨hp.1,hp.2,k⟩
   ·cases h
  ·cases h
 |iH n ag x i=>
  simp only[cR]at h
  simp only[aj]
  split at h
  ·rename_i q j e1
   rw[e1]
   split at h
   ·rename_i e;simp only[e];cases h;exact⟨hp.1,hp.2,k⟩
   ·rename_i e;simp only[e];cases h;exact⟨hp.1,hp.2,k⟩
   ·cases h
  ·cases h
 |extract x i=>
  simp only[cR]at h
  simp only[aj]
  split at h
  ·rename_i xs e1
   rw[e1]
   split at h
   ·rename_i y e;simp only[e];have:=wZ h;cases this;exact k
   ·cases h
  ·cases h
 |len s x=>
  cases s with
  |true=>
   simp only[cR]at h
   simp only[aj]
   split at h
   ·rename_i e;rw[e];cases h;exact k
   ·cases h
  |false=>
   simp only[cR]at h
   simp only[aj]
   split at h
   ·rename_i e;rw[e];cases h;exact k
   ·rename_i e;rw[e];cases h;exact k
   ·rename_i e;rw[e];cases h;exact fun _=>k
   ·rename_i e;rw[e];cases h;exact fun _=>k
   ·cases h
 |max2 x y=>
  simp only[cR]at h
  simp only[aj]
  split at h
  ·rename_i a b e1 e2
   rw[e1,e2]
   split at h
   ·rename_i r e;simp only[e];cases h;exact k
   ·cases h
  ·cases h
 |min2 x y=>
  simp only[cR]at h
  simp only[aj]
  split at h
  ·rename_i a b e1 e2
   rw[e1,e2]
   split at h
   ·rename_i r e;simp only[e];cases h;exact k
   ·cases h
  ·cases h
def dk(σ σ':Store):Prop:=(∀ t,aN σ t=aN σ' t)∧σ.Perm σ'
theorem dk.refl(σ:Store):dk σ σ:=⟨fun _=>rfl,.refl _⟩
theorem dk.symm{σ σ':Store}(h:dk σ σ'):dk σ' σ:=⟨fun t=>(h.1 t).symm,h.2.symm⟩
theorem dk.trans{a b c:Store}(h:dk a b)(k:dk b c):dk a c:=⟨fun t=>(h.1 t).trans (k.1 t),h.2.trans k.2⟩
theorem pB(t b:Nat)(x:bN)(σ:Store)(s:Nat):aN ((t,b,x)::σ) s=if t=s then some (b,x)else aN σ s:=by
 simp only[aN]
 cases h:Nat.beq t s with
 |true=>rw[if_pos (ZL h)];rfl
 |false=>rw[if_neg (fun e=>by subst e;simp[YJ]at h)];rfl
theorem dk.cons{σ σ':Store}(e:Nat×Nat×bN)(h:dk σ σ'):dk (e::σ) (e::σ'):=by
 obtain⟨t,b,x⟩:=e
 exact⟨fun s=>by rw[pB,pB,h.1 s],h.2.cons _⟩
theorem dk.swap{t t' b b':Nat}{x x':bN}(h:t≠t')(σ:Store):dk ((t,b,x)::(t',b',x')::σ) ((t',b',x')::(t,b,x)::σ):=
 ⟨fun s=>by
  simp only[pB]
  by_cases h1:t=s
  ·by_cases h2:t'=s
   ·exact absurd (h1.trans h2.symm) h
   ·simp[h1,h2]
  ·by_cases h2:t'=s<;>simp[h1,h2],List.Perm.swap _ _ _⟩
theorem tz{t b:Nat}{x:bN}:∀ {σ:Store},aN σ t=some (b,x)→∀ b' x' s,aN (ct σ t b' x') s=if t=s then some (b',x')else aN σ s
 |[],h,_,_,_=>by cases h
 |(i,c,y)::σ,h,b',x',s=>by
  rw[pB]at h
  simp only[ct]
  cases hb:Nat.beq i t with
  |true=>
   obtain rfl:=ZL hb
   simp only[cond_true,pB]
   split<;>rfl
  |false=>
   have aQ:i≠t:=fun e=>by subst e;simp[YJ]at hb
   rw[if_neg aQ]at h
   simp only[XW,pB,tz h b' x' s]
   by_cases h1:i=s
   ·have:t≠s:=fun e=>aQ (h1.trans e.symm)
    simp[h1,this]
   ·simp[h1]
theorem dk.ct{σ σ':Store}(h:dk σ σ'){t b:Nat}{x:bN}(hb:aN σ t=some (b,x))(b':Nat)(x':bN):dk (Sx.ct σ t b' x') (Sx.ct σ' t b' x'):=by
 have gr:aN σ' t=some (b,x):=(h.1 t).symm.trans hb
 refine⟨fun s=>by rw[tz hb,tz gr,h.1 s],?_⟩
 obtain⟨p,q,e,k⟩:=rH hb
 obtain⟨p',q',e',k'⟩:=rH gr
 rw[k,k']
 have hp:=h.2
 rw[e,e']at hp
 have h1:((t,b,x)::(p++q)).Perm ((t,b,x)::(p'++q')):=(List.perm_middle.symm.trans hp).trans Yk
 exact(List.perm_middle.trans ((h1.cons_inv).cons _)).trans List.perm_middle.symm
theorem Inv.perm{P:Program}[Glob P]{M:Mem}{w0:Base}{w:World}{σ σ':Store}(hI:Inv P M w0 σ w)(h:σ.Perm σ'):Inv P M w0 σ' w:=
 ⟨hI.os,hI.tape,hI.output,hI.size,hI.old,hI.dB,fun e he=>hI.st e (h.mem_iff.2 he),((h.map _).nodup_iff).1 hI.nd,hI.gl,hI.gw,hI.bm⟩
theorem ay8{P:Program}[Glob P]{cfg:Nat→Nat}{d:Option Nat}{rg:ae}{σ:Store}{K:AV→Prop}{op:aw}(hl:op.cls=0)(h:aG P cfg d rg σ K op):
  ∃ x,K x∧∀ (σ':Store) (K':AV→Prop),K' x→aG P cfg d rg σ' K' op:=by
 cases op with
 |box t x=>exact h.elim
 |alloc t z=>exact h.elim
 |store n x y=>exact h.elim
 |append t n k z x y=>exact h.elim
 |exts op ty ti args=>exact h.elim
 |panic x=>exact h.elim
 |cp op ty ti args=>obtain⟨r,hp,hk⟩:=h;exact⟨r,hk,fun σ' K' h=>⟨r,hp,h⟩⟩
 |call f args=>obtain⟨r,hp,hk⟩:=h;exact⟨r,hk,fun σ' K' h=>⟨r,hp,h⟩⟩
 |dA f args=>
  simp only[aG]at h
  simp only[aG,aj]
  split at h
  ·rename_i g b c he
   obtain⟨bJ,r,hp,hk⟩:=h
   (try rw[he])
   exact⟨r,hk,fun σ' K' h=>⟨bJ,r,hp,h⟩⟩
  ·rename_i g b c he
   obtain⟨bJ,r,hp,hk⟩:=h
   (try rw[he])
   exact⟨r,hk,fun σ' K' h=>⟨bJ,r,hp,h⟩⟩
  ·exact h.elim
 |aZ t ag parts=>
  simp only[aG]at h
  simp only[aG,aj]
  split at h
  ·rename_i rows he
   (try rw[he])
   obtain⟨hn,h⟩:=h
   split at h
   ·rename_i e;exact⟨_,h,fun σ' K' hk=>⟨hn,by first|exact hk|(rw[e];exact hk)|(simp[e];exact hk)⟩⟩
   ·rename_i e;exact⟨_,h,fun σ' K' hk=>⟨hn,by first|exact hk|(rw[e];exact hk)|(simp[e];exact hk)⟩⟩
   ·exact h.elim
  ·exact h.elim
 |len s x=>
  cases s<;>simp only[aG]at h<;>simp only[aG]
  ·split at h
   ·rename_i b n c he;(try rw[he]);exact⟨_,h,fun σ' K' hk=>hk⟩
   ·rename_i tg b o n c he;(try rw[he]);exact⟨_,h,fun σ' K' hk=>hk⟩
   ·rename_i nn ez rows he;(try rw[he]);exact⟨_,h,fun σ' K' hk=>hk⟩
   ·rename_i ez tg b u c rows he;(try rw[he]);exact⟨_,h,fun σ' K' hk=>hk⟩
   ·exact h.elim
  ·split at h
   ·rename_i s he;(try rw[he]);exact⟨_,h,fun σ' K' hk=>hk⟩
   ·exact h.elim
 |mv x=>exact⟨_,h,fun σ' K' hk=>hk⟩
 |lT t x=>exact⟨_,h,fun σ' K' hk=>hk⟩
 |pick c x y=>
  simp only[aG,aj]at h
  simp only[aG,aj]
  split at h
  ·rename_i t he;(try rw[he]);exact⟨_,h,fun σ' K' hk=>hk⟩
  ·exact h.elim
 |build z parts=>
  simp only[aG,aj]at h
  simp only[aG,aj]
  split at h
  ·rename_i t he;(try rw[he]);exact⟨_,h,fun σ' K' hk=>hk⟩
  ·exact h.elim
 |load g n x=>cases hl
 |j6 x=>
  simp only[aG,aj]at h
  simp only[aG,aj]
  split at h<;>first|exact h.elim|(rename_i he;(try rw[he]);exact⟨_,h,fun σ' K' hk=>hk⟩)
 |bin op x y=>
  simp only[aG,aj]at h
  simp only[aG,aj]
  split at h
  ·rename_i u v hu hv
   (try rw[hu,hv])
   obtain⟨z,hz,ob⟩:=PG h
   exact⟨.v z,hz,fun σ' K' hk=>ob _ hk⟩
  ·exact h.elim
 |gZ n k x y=>
  simp only[aG,aj]at h
  simp only[aG,aj]
  split at h
  ·rename_i t he;(try rw[he]);exact⟨_,h,fun σ' K' hk=>hk⟩
  ·exact h.elim
 |eqs n k x y=>
  simp only[aG,aj]at h
  simp only[aG,aj]
  split at h
  ·rename_i xs ys h1 h2
   (try rw[h1,h2])
   split at h
   ·rename_i t he;(try simp only[he]);exact⟨_,h,fun σ' K' hk=>hk⟩
   ·exact h.elim
  ·exact h.elim
 |un op x=>
  simp only[aG,aj]at h
  simp only[aG,aj]
  split at h
  ·rename_i u hu
   (try rw[hu])
   split at h
   ·rename_i t he;(try simp only[he]);exact⟨_,h,fun σ' K' hk=>hk⟩
   ·exact h.elim
  ·exact h.elim
 |ly k x=>
  simp only[aG,aj]at h
  simp only[aG,aj]
  split at h
  ·rename_i k' n he;(try rw[he]);exact⟨_,h,fun σ' K' hk=>hk⟩
  ·exact h.elim
 |oU x=>
  simp only[aG,aj]at h
  simp only[aG,aj]
  split at h
  ·rename_i s he;(try rw[he]);exact⟨_,h,fun σ' K' hk=>hk⟩
  ·exact h.elim
 |gi fn first captured=>
  simp only[aG,aj]at h
  simp only[aG,aj]
  split at h
  ·rename_i u v h1 h2;(try rw[h1,h2]);exact⟨_,h,fun σ' K' hk=>hk⟩
  ·split at h
   ·exact⟨_,h,fun σ' K' hk=>hk⟩
   ·exact h.elim
 |slice ag x lo hi=>
  simp only[aG,aj]at h
  simp only[aG,aj]
  split at h
  ·rename_i bW dU h1 h2
   (try rw[h1,h2])
   split at h
   ·rename_i nn e rows he;(try simp only[he]);exact⟨_,h.2.2.2.2,fun σ' K' hk=>⟨h.1,h.2.1,h.2.2.1,h.2.2.2.1,hk⟩⟩
   ·rename_i e tg b u c rows he;(try simp only[he]);exact⟨_,h.2.2.2.2,fun σ' K' hk=>⟨h.1,h.2.1,h.2.2.1,h.2.2.2.1,hk⟩⟩
   ·rename_i he;(try simp only[he]);exact⟨_,h.2.2,fun σ' K' hk=>⟨h.1,h.2.1,hk⟩⟩
   ·exact h.elim
  ·exact h.elim
 |iS off x=>
  simp only[aG,aj]at h
  simp only[aG,aj]
  split at h<;>first|exact h.elim|(rename_i he;(try rw[he]);exact⟨_,h,fun σ' K' hk=>hk⟩)
 |field g o n x=>
  simp only[aG,aj]at h
  simp only[aG,aj]
  split at h
  ·rename_i l hl
   (try rw[hl])
   obtain⟨aH,h⟩:=h
   cases g with
   |true=>simp only[Y7]at h ⊢;exact⟨_,h,fun σ' K' hk=>⟨aH,hk⟩⟩
   |false=>
    simp only[ZS,Zt]at h ⊢
    split at h
    ·rename_i y hy;(try rw[hy]);exact⟨_,h,fun σ' K' hk=>⟨aH,hk⟩⟩
    ·exact h.elim
  ·exact h.elim
 |eH ag x i=>
  simp only[aG,aj]at h
  simp only[aG,aj]
  split at h
  ·rename_i k j hi
   (try rw[hi])
   split at h
   ·rename_i nn e rows he;(try simp only[he]);exact⟨_,h.2.2.2,fun σ' K' hk=>⟨h.1,h.2.1,h.2.2.1,hk⟩⟩
   ·rename_i e tg b u c rows he;(try simp only[he]);exact⟨_,h.2.2.2,fun σ' K' hk=>⟨h.1,h.2.1,h.2.2.1,hk⟩⟩
   ·rename_i tg b o n c he;(try simp only[he]);exact⟨_,h.2.2,fun σ' K' hk=>⟨h.1,h.2.1,hk⟩⟩
   ·exact h.elim
  ·exact h.elim
 |iH n ag x i=>
  simp only[aG,aj]at h
  simp only[aG,aj]
  split at h
  ·rename_i k j hi
   (try rw[hi])
   split at h
   ·rename_i tg b o he;(try simp only[he]);exact⟨_,h.2.2,fun σ' K' hk=>⟨h.1,h.2.1,hk⟩⟩
   ·rename_i l he;(try simp only[he]);exact⟨_,h.2.2,fun σ' K' hk=>⟨h.1,h.2.1,hk⟩⟩
   ·rename_i g o he;(try simp only[he]);obtain⟨l,ha,h0,h1,h2,h3⟩:=h;exact⟨_,h3,fun σ' K' hk=>⟨l,ha,h0,h1,h2,hk⟩⟩
   ·exact h.elim
  ·exact h.elim
 |idxs x i=>
  simp only[aG,aj]at h
  simp only[aG,aj]
  split at h
  ·rename_i k j s h1 h2
   (try rw[h1,h2])
   obtain⟨aH,h⟩:=h
   exact⟨_,h,fun σ' K' hk=>⟨aH,hk⟩⟩
  ·exact h.elim
 |extract x i=>
  simp only[aG,aj]at h
  simp only[aG,aj]
  split at h
  ·rename_i xs he
   (try rw[he])
   split at h
   ·rename_i y hy;(try simp only[hy]);exact⟨_,h,fun σ' K' hk=>hk⟩
   ·exact h.elim
  ·rename_i xs he
   (try rw[he])
   split at h
   ·rename_i y hy;(try simp only[hy]);exact⟨_,h,fun σ' K' hk=>hk⟩
   ·exact h.elim
  ·exact h.elim
 |max2 x y=>
  simp only[aG,aj]at h
  simp only[aG,aj]
  split at h
  ·rename_i u v h1 h2
   (try rw[h1,h2])
   split at h
   ·rename_i t he;(try simp only[he]);exact⟨_,h,fun σ' K' hk=>hk⟩
   ·exact h.elim
  ·exact h.elim
 |min2 x y=>
  simp only[aG,aj]at h
  simp only[aG,aj]
  split at h
  ·rename_i u v h1 h2
   (try rw[h1,h2])
   split at h
   ·rename_i t he;(try simp only[he]);exact⟨_,h,fun σ' K' hk=>hk⟩
   ·exact h.elim
  ·exact h.elim
end Go.Sx
