/-
  The layer Sx, twelfth part: single steps that are computed.
-/
import Derived.Test.YtajimcniogfpcaaGreatDoorSxDraw
set_option linter.unusedVariables false
set_option linter.unusedSimpArgs false
set_option linter.unusedSectionVars false
namespace Go.Sx
open Go.RowKit
def fo{α:Type}(x:AV)(k:AV→Option α):Option α:=
 match x with
 | .v (.int q n)=>k (.v (.int q n))
 | .v (.bool b)=>k (.v (.bool b))
 | .v (.string s)=>k (.v (.string s))
 | .v y=>k (.v y)
 | .any=>k .any
 | .agg xs=>k (.agg xs)
 | .aP xs=>k (.aP xs)
 | .sl nn e rows=>k (.sl nn e rows)
 | .own e t b u c rows=>k (.own e t b u c rows)
 | .ms t b o n c=>k (.ms t b o n c)
 | .pc l=>k (.pc l)
 | .dN t x=>k (.dN t x)
 | .lp t b o=>k (.lp t b o)
 | .bH t b=>k (.bH t b)
 | .ai q=>k (.ai q)
 | .cl f a c=>k (.cl f a c)
 | .fl e rows=>k (.fl e rows)
theorem jg{α:Type}{x:AV}{k:AV→Option α}{r:α}(h:fo x k=some r):k x=some r:=by
 unfold fo at h
 split at h<;>first|exact h|cases h
def jf{α:Type}:List AV→(List AV→Option α)→Option α
 |[],k=>k []
 |x::l,k=>fo x fun y=>jf l fun l'=>k (y::l')
theorem iT{α:Type}:∀ {l:List AV} {k:List AV→Option α} {r:α},jf l k=some r→k l=some r
 |[],_,_,h=>h
 |x::l,k,r,h=>iT (l:=l) (k:=fun l'=>k (x::l')) (jg (k:=fun y=>jf l fun l'=>k (y::l')) h)
def BH{α:Type}:List (List AV)→(List (List AV)→Option α)→Option α
 |[],k=>k []
 |x::l,k=>jf x fun y=>BH l fun l'=>k (y::l')
theorem wS{α:Type}:∀ {l:List (List AV)} {k:List (List AV)→Option α} {r:α},BH l k=some r→k l=some r
 |[],_,_,h=>h
 |x::l,k,r,h=>wS (l:=l) (k:=fun l'=>k (x::l')) (iT (k:=fun y=>BH l fun l'=>k (y::l')) h)
def vO:Store→Nat→Nat→aR→Option Store
 |[],_,_,_=>none
 |(i,b',x')::r,t,b,x=>bif Nat.beq i t then some ((t,b,x)::r)else match vO r t b x with
  |some r'=>some ((i,b',x')::r')
  |none=>none
theorem Dq:∀ {σ:Store} {t b:Nat} {x:aR} {σ':Store},vO σ t b x=some σ'→dx σ t b x=σ'
 |[],_,_,_,_,h=>by cases h
 |(i,b',x')::r,t,b,x,σ',h=>by
  simp only[vO]at h
  simp only[dx]
  cases hb:Nat.beq i t with
  |true=>grind
  |false=>
   rw[hb]at h
   simp at h ⊢
   split at h
   ·rename_i r' hr;cases h;rw[Dq hr]
   grind
def DW(op:BinOp):Value→Value→Option (Prop×Value)
 | .int k a,.int k' b=>
  match op with
  | .add=>bif k == k' then some (True,.int k (k.wrap (a+b)))else none
  | .sub=>bif k == k' then some (True,.int k (k.wrap (a-b)))else none
  | .mul=>bif k == k' then some (True,.int k (k.wrap (a * b)))else none
  | .quo=>bif k == k' then some (b≠0,.int k (k.wrap (a.tdiv b)))else none
  | .rem=>bif k == k' then some (b≠0,.int k (a.tmod b))else none
  | .eql=>bif k == k' then some (True,.bool (decide (a=b)))else none
  | .neq=>bif k == k' then some (True,.bool (!decide (a=b)))else none
  | .lss=>bif k == k' then some (True,.bool (decide (a<b)))else none
  | .leq=>bif k == k' then some (True,.bool (decide (a≤b)))else none
  | .gtr=>bif k == k' then some (True,.bool (decide (b<a)))else none
  | .geq=>bif k == k' then some (True,.bool (decide (b≤a)))else none
  | .and=>bif k == k' then some (True,.int k (bits .and k a b))else none
  | .or=>bif k == k' then some (True,.int k (bits .or k a b))else none
  | .xor=>bif k == k' then some (True,.int k (bits .xor k a b))else none
  | .andNot=>bif k == k' then some (True,.int k (bits .andNot k a b))else none
  | .shl=>some (0≤b∧b≤k.bits,.int k (k.wrap (a * 2 ^ b.toNat)))
  | .shr=>some (0≤b∧b≤k.bits,.int k (a / 2 ^ b.toNat))
 | .string a,.string b=>
  match op with
  | .add=>some (a.size+b.size≤9223372036854775807,.string (a++b))
  | .eql=>some (True,.bool (decide (a=b)))
  | .neq=>some (True,.bool (!decide (a=b)))
  | .lss=>some (True,.bool (Op.bytesLess a.toList b.toList))
  | .leq=>some (True,.bool (Op.bytesLess a.toList b.toList || decide (a=b)))
  | .gtr=>some (True,.bool (!(Op.bytesLess a.toList b.toList || decide (a=b))))
  | .geq=>some (True,.bool (!Op.bytesLess a.toList b.toList))
  |_=>none
 |_,_=>none
def cR(cfg:Nat→Nat)(d:Option Nat)(rg:af)(σ:Store):aw→Option (Prop×AV×Store)
 | .mv x=>fo (ev rg x) fun v=>some (True,v,σ)
 | .pick c a b=>match ev rg c with
  | .v (.bool true)=>fo (ev rg a) fun v=>some (True,v,σ)
  | .v (.bool false)=>fo (ev rg b) fun v=>some (True,v,σ)
  |_=>none
 | .build z parts=>match qf (z.map .v) (mJ rg parts)with
  |some l=>jf l fun l=>some (True,.agg l,σ)
  |none=>none
 | .dZ _ ag parts=>match rowsOf ag (aE rg parts)with
  |some rows=>match cfg (d.getD 0)with
   |0=>BH rows fun rows=>some (rows.length≤1000000,.sl true ag rows,σ)
   |3=>BH rows fun rows=>some (rows.length≤1000000,.fl ag rows,σ)
   |_=>none
  |none=>none
 | .load agg n x=>match ev rg x with
  | .lp t b o=>match aM σ t with
   |some (b',.cells l)=>match agg with
    |true=>bif Nat.ble (o+n) l.length then jf ((l.drop o).take n) (fun l2=>some (b=b',.agg l2,σ))else none
    |false=>match l[o]? with
     |some y=>fo y fun v=>some (b=b',v,σ)
     |none=>none
   |_=>none
  | .pc l=>match agg with
   |true=>bif Nat.ble n l.length then jf (l.take n) (fun l2=>some (True,.agg l2,σ))else none
   |false=>match l[0]? with
    |some y=>fo y fun v=>some (True,v,σ)
    |none=>none
  |_=>none
 | .store n x y=>match ev rg x,(ev rg y).cells? with
  | .lp t b o,some l'=>match aM σ t with
   |some (b',.cells l)=>bif Nat.beq l'.length n && l'.all AV.one && Nat.ble (o+n) l.length then jf (over l o l') (fun l2=>match vO σ t b (.cells l2)with
    |some σ'=>some (b=b',.v undef,σ')
    |none=>none)else none
   |_=>none
  |_,_=>none
 | .nk x=>match ev rg x with
  | .lp t b o=>some (True,.lp t b o,σ)
  | .pc l=>some (True,.pc l,σ)
  |_=>none
 | .bin op x y=>match ev rg x,ev rg y with
  | .v a,.v b=>match DW op a b with
   |some (p,r)=>some (p,.v r,σ)
   |none=>none
  |_,_=>none
 | .jR neg k x y=>match ue k (ev rg x) (ev rg y)with
  |some b=>some (True,.v (.bool (b ^^ neg)),σ)
  |none=>none
 | .eqs neg ks x y=>match(ev rg x).ju,(ev rg y).ju with
  |some xs,some ys=>match nI ks xs ys with
   |some b=>some (True,.v (.bool (b ^^ neg)),σ)
   |none=>none
  |_,_=>none
 | .un op x=>match ev rg x with
  | .v a=>match GF op a with
   |some r=>some (True,.v r,σ)
   |none=>none
  |_=>none
 | .mI k x=>match ev rg x with
  | .v (.int _ n)=>some (True,.v (.int k (k.wrap n)),σ)
  |_=>none
 | .nF x=>match ev rg x with
  | .v (.string s)=>some (True,.v (.string s),σ)
  |_=>none
 | .oe t x=>fo (ev rg x) fun v=>some (True,.dN t v,σ)
 | .od fn first captured=>match bV (aE rg first),bV (aE rg captured)with
  |some a,some c=>some (True,.v (.func fn a.toArray c.toArray),σ)
  |_,_=>match fn with
   | .func f=>some (True,.cl f (aE rg first) (aE rg captured),σ)
   |_=>none
 | .slice ag x lo hi=>match jl (lo.map (ev rg)),jl (hi.map (ev rg))with
  |some lo,some hi=>match ev rg x with
   | .sl nn e rows=>some (e=ag∧0≤lo.getD 0∧lo.getD 0≤hi.getD rows.length∧hi.getD rows.length≤rows.length,.sl nn ag ((rows.take (hi.getD rows.length).toNat).drop (lo.getD 0).toNat),σ)
   |_=>none
  |_,_=>none
 | .dk off x=>match ev rg x with
  | .lp t b o=>some (True,.lp t b (o+off),σ)
  | .pc l=>some (True,.pc (l.drop off),σ)
  |_=>none
 | .field agg off n x=>match(ev rg x).ju with
  |some l=>bif Nat.ble (off+n) l.length then(match agg with
   |true=>jf ((l.drop off).take n) fun l2=>some (True,.agg l2,σ)
   |false=>match l[off]? with
    |some y=>fo y fun v=>some (True,v,σ)
    |none=>none)else none
  |none=>none
 | .iz ag x i=>match ev rg i with
  | .v (.int _ i)=>match ev rg x with
   | .sl _ e rows=>some (e=ag∧0≤i∧i<rows.length,.pc (rows.getD i.toNat []),σ)
   | .own e _ _ _ _ rows=>some (e=ag∧0≤i∧i<rows.length,.pc (rows.getD i.toNat []),σ)
   | .ms t b o n _=>some (0≤i∧i<n,.lp t b (o+i.toNat * ag),σ)
   |_=>none
  |_=>none
 | .mY n ag x i=>match ev rg i with
  | .v (.int _ i)=>match ev rg x with
   | .lp t b o=>some (0≤i∧i<n,.lp t b (o+i.toNat * ag),σ)
   | .pc l=>some (0≤i∧i<n,.pc (l.drop (i.toNat * ag)),σ)
   |_=>none
  |_=>none
 | .extract x i=>match ev rg x with
  | .aP xs=>match xs[i]? with
   |some y=>fo y fun v=>some (True,v,σ)
   |none=>none
  |_=>none
 | .len true x=>match ev rg x with
  | .v (.string s)=>some (True,.v (.int .i64 s.size),σ)
  |_=>none
 | .len false x=>match ev rg x with
  | .v (.slice _ n _)=>some (True,.v (.int .i64 n),σ)
  | .ms _ _ _ n _=>some (True,.v (.int .i64 n),σ)
  | .sl _ _ rows=>some (True,.v (.int .i64 rows.length),σ)
  | .own _ _ _ _ _ rows=>some (True,.v (.int .i64 rows.length),σ)
  |_=>none
 | .max2 x y=>match ev rg x,ev rg y with
  | .v a,.v b=>match vf false a b with
   |some r=>some (True,.v r,σ)
   |none=>none
  |_,_=>none
 | .min2 x y=>match ev rg x,ev rg y with
  | .v a,.v b=>match vf true a b with
   |some r=>some (True,.v r,σ)
   |none=>none
  |_,_=>none
 |_=>none
theorem abV{op:BinOp}{a b:Value}{p:Prop}{r:Value}{K:Value→Prop}(h:DW op a b=some (p,r))(hp:p)(k:K r):mB op a b K:=by
 unfold DW at h
 split at h
 ·rename_i q x q' y
  by_cases e:q=q'
  ·subst e
   cases op<;>simp only[beq_self_eq_true,Y6,Z1,Y3]at h<;>obtain⟨rfl,rfl⟩:=h<;>simp only[mB]
   all_goals grind
  ·have e':(q == q')=false:=by grind
   cases op<;>simp only[e',YD,reduceCtorEq,Z1,Y3]at h<;>simp only[mB]
   case shl=>grind
   grind
 ·cases op<;>simp only[reduceCtorEq]at h<;>simp only[mB]
  all_goals(grind)
 grind
theorem se{α:Type}{c:Bool}{o:Option α}{r:α}(h:(bif c then o else none)=some r):c=true∧o=some r:=by
 cases c with
 |true=>exact⟨rfl,h⟩
 |false=>cases h
theorem ua{P:Program}[Glob P]{cfg:Nat→Nat}{d:Option Nat}{rg:af}{σ σ':Store}{op:aw}{p:Prop}{v:AV}{K:AV→Store→Prop}{E:List PanicEntry→Store→Prop}
  (h:cR cfg d rg σ op=some (p,v,σ')) (hp:p) (k:K v σ'):al P cfg d rg σ K E op:=by
 cases op with
 |mv x=>simp only[cR]at h;have:=jg h;cases this;exact k
 |pick c x y=>
  simp only[cR]at h
  simp only[al]
  split at h
  ·rename_i e;rw[e];have:=jg h;grind
  ·rename_i e;rw[e];have:=jg h;grind
  grind
 |box t x=>cases h
 |alloc t z=>cases h
 |append t n k z x y=>cases h
 |call f args=>cases h
 |fR f args=>cases h
 |idxs x y=>cases h
 |cQ op ty ti args=>cases h
 |exts op ty ti args=>cases h
 |panic x=>cases h
 |build z parts=>
  simp only[cR]at h
  simp only[al]
  split at h
  ·rename_i l e;rw[e];have:=iT h;grind
  grind
 |dZ t ag parts=>
  simp only[cR]at h
  simp only[al]
  split at h
  ·rename_i rows e
   rw[e]
   split at h
   ·rename_i e2;have:=wS h;cases this;exact⟨hp,by simp only[e2];exact k⟩
   ·rename_i e2;have:=wS h;cases this;exact⟨hp,by simp only[e2];exact k⟩
   grind
  grind
 |load agg n x=>
  simp only[cR]at h
  simp only[al]
  split at h
  ·rename_i t b o e
   rw[e]
   split at h
   ·rename_i b' l e2
    simp only[e2]
    split at h
    ·obtain⟨h1,h⟩:=se h
     have:=iT h
     cases this
     exact⟨hp,by simp only[Y2];exact⟨ZR h1,k⟩⟩
    ·split at h
     ·rename_i y e3
      have:=jg h
      cases this
      exact⟨hp,by simp only[ZV,Y8,e3];exact k⟩
     ·cases h
   ·cases h
  ·rename_i l e
   rw[e]
   split at h
   ·obtain⟨h1,h⟩:=se h
    have:=iT h
    cases this
    simp only[Y2];exact⟨ZR h1,k⟩
   ·split at h
    ·rename_i y e3
     have:=jg h
     cases this
     simp only[ZV,Y8,e3];exact k
    ·cases h
  ·cases h
 |store n x y=>
  simp only[cR]at h
  simp only[al]
  split at h
  ·rename_i t b o l' e1 e2
   rw[e1,e2]
   split at h
   ·rename_i b' l e3
    simp only[e3]
    obtain⟨h1,h⟩:=se h
    simp only[Z6]at h1
    replace h:=iT h
    split at h
    case h_2=>cases h
    rename_i aC e4
    cases h
    rw[← Dq e4]at k
    exact⟨hp,Z2 h1.1.1,h1.1.2,ZR h1.2,k⟩
   ·cases h
  ·cases h
 |nk x=>
  simp only[cR]at h
  simp only[al]
  split at h
  ·rename_i e;rw[e];cases h;exact k
  ·rename_i e;rw[e];cases h;exact k
  ·cases h
 |bin op x y=>
  simp only[cR]at h
  simp only[al]
  split at h
  ·rename_i a b e1 e2
   rw[e1,e2]
   split at h
   ·rename_i p' r e3;cases h;exact abV e3 hp k
   ·cases h
  ·cases h
 |jR neg q x y=>
  simp only[cR]at h
  simp only[al]
  split at h
  ·rename_i b e;rw[e];cases h;exact k
  ·cases h
 |eqs neg ks x y=>
  simp only[cR]at h
  simp only[al]
  split at h
  ·rename_i xs ys e1 e2
   rw[e1,e2]
   split at h
   ·rename_i b e;simp only[e];cases h;exact k
   ·cases h
  ·cases h
 |un op x=>
  simp only[cR]at h
  simp only[al]
  split at h
  ·rename_i a e1
   rw[e1]
   split at h
   ·rename_i r e;simp only[e];cases h;exact k
   ·cases h
  ·cases h
 |mI q x=>
  simp only[cR]at h
  simp only[al]
  split at h
  ·rename_i e;rw[e];cases h;exact k
  ·cases h
 |nF x=>
  simp only[cR]at h
  simp only[al]
  split at h
  ·rename_i e;rw[e];cases h;exact k
  ·cases h
 |oe t x=>simp only[cR]at h;have:=jg h;cases this;exact k
 |od fn first captured=>
  simp only[cR]at h
  simp only[al]
  split at h
  ·rename_i e1 e2;rw[e1,e2];cases h;exact k
  ·split at h
   ·cases h;first|(simp only[*];done)|(simp only[*];exact k)
   ·cases h
 |slice ag x lo hi=>
  simp only[cR]at h
  simp only[al]
  split at h
  ·rename_i cL eW e1 e2
   rw[e1,e2]
   split at h
   ·rename_i nn e rows e3;simp only[e3];cases h;exact⟨hp.1,hp.2.1,hp.2.2.1,hp.2.2.2,k⟩
   ·cases h
  ·cases h
 |dk off x=>
  simp only[cR]at h
  simp only[al]
  split at h
  ·rename_i e;rw[e];cases h;exact k
  ·rename_i e;rw[e];cases h;exact k
  ·cases h
 |field agg off n x=>
  simp only[cR]at h
  simp only[al]
  split at h
  ·rename_i l e
   rw[e]
   obtain⟨h1,h⟩:=se h
   refine⟨ZR h1,?_⟩
   split at h
   ·have:=iT h;cases this;exact k
   ·split at h
    ·rename_i y e3
     have:=jg h
     cases this
     simp only[ZV,Y8,e3];exact k
    ·cases h
  ·cases h
 |iz ag x i=>
  simp only[cR]at h
  simp only[al]
  split at h
  ·rename_i q j e1
   rw[e1]
   split at h
   ·rename_i e;simp only[e];cases h;exact⟨hp.1,hp.2.1,hp.2.2,k⟩
   ·rename_i e;simp only[e];cases h;exact⟨hp.1,hp.2.1,hp.2.2,k⟩
   ·rename_i e;simp only[e];cases h;exact⟨hp.1,hp.2,k⟩
   ·cases h
  ·cases h
 |mY n ag x i=>
  simp only[cR]at h
  simp only[al]
  split at h
  ·rename_i q j e1
   rw[e1]
   split at h
   ·rename_i e;simp only[e];cases h;exact⟨hp.1,hp.2,k⟩
   ·rename_i e;simp only[e];cases h;exact⟨hp.1,hp.2,k⟩
   ·cases h
  ·cases h
 |extract x i=>
  simp only[cR]at h
  simp only[al]
  split at h
  ·rename_i xs e1
   rw[e1]
   split at h
   ·rename_i y e;simp only[e];have:=jg h;cases this;exact k
   ·cases h
  ·cases h
 |len s x=>
  cases s with
  |true=>
   simp only[cR]at h
   simp only[al]
   split at h
   ·rename_i e;rw[e];cases h;exact k
   ·cases h
  |false=>
   simp only[cR]at h
   simp only[al]
   split at h
   ·rename_i e;rw[e];cases h;exact k
   ·rename_i e;rw[e];cases h;exact k
   ·rename_i e;rw[e];cases h;exact fun _=>k
   ·rename_i e;rw[e];cases h;exact fun _=>k
   ·cases h
 |max2 x y=>
  simp only[cR]at h
  simp only[al]
  split at h
  ·rename_i a b e1 e2
   rw[e1,e2]
   split at h
   ·rename_i r e;simp only[e];cases h;exact k
   ·cases h
  ·cases h
 |min2 x y=>
  simp only[cR]at h
  simp only[al]
  split at h
  ·rename_i a b e1 e2
   rw[e1,e2]
   split at h
   ·rename_i r e;simp only[e];cases h;exact k
   ·cases h
  ·cases h
def cz(σ σ':Store):Prop:=(∀ t,aM σ t=aM σ' t)∧σ.Perm σ'
theorem cz.refl(σ:Store):cz σ σ:=⟨fun _=>rfl,.refl _⟩
theorem cz.symm{σ σ':Store}(h:cz σ σ'):cz σ' σ:=⟨fun t=>(h.1 t).symm,h.2.symm⟩
theorem cz.trans{a b c:Store}(h:cz a b)(k:cz b c):cz a c:=⟨fun t=>(h.1 t).trans (k.1 t),h.2.trans k.2⟩
theorem ob(t b:Nat)(x:aR)(σ:Store)(s:Nat):aM ((t,b,x)::σ) s=if t=s then some (b,x)else aM σ s:=by
 simp only[aM]
 simp_all
theorem cz.cons{σ σ':Store}(e:Nat×Nat×aR)(h:cz σ σ'):cz (e::σ) (e::σ'):=by
 obtain⟨t,b,x⟩:=e
 exact⟨fun s=>by rw[ob,ob,h.1 s],h.2.cons _⟩
theorem cz.swap{t t' b b':Nat}{x x':aR}(h:t≠t')(σ:Store):cz ((t,b,x)::(t',b',x')::σ) ((t',b',x')::(t,b,x)::σ):=
 ⟨fun s=>by
  simp only[ob]
  grind,List.Perm.swap _ _ _⟩
theorem Aa{t b:Nat}{x:aR}:∀ {σ:Store},aM σ t=some (b,x)→∀ b' x' s,aM (dx σ t b' x') s=if t=s then some (b',x')else aM σ s
 |[],h,_,_,_=>by cases h
 |(i,c,y)::σ,h,b',x',s=>by
  rw[ob]at h
  simp only[dx]
  cases hb:Nat.beq i t with
  |true=>
   obtain rfl:=Z2 hb
   simp only[Y6,ob]
   grind
  |false=>
   have aH:i≠t:=fun e=>by simp_all
   rw[Z5 aH]at h
   simp only[YD,ob,Aa h b' x' s]
   grind
theorem cz.dx{σ σ':Store}(h:cz σ σ'){t b:Nat}{x:aR}(hb:aM σ t=some (b,x))(b':Nat)(x':aR):cz (Sx.dx σ t b' x') (Sx.dx σ' t b' x'):=by
 have gT:aM σ' t=some (b,x):=(h.1 t).symm.trans hb
 refine⟨fun s=>by rw[Aa hb,Aa gT,h.1 s],?_⟩
 obtain⟨p,q,e,k⟩:=yr hb
 obtain⟨p',q',e',k'⟩:=yr gT
 rw[k,k']
 have hp:=h.2
 rw[e,e']at hp
 have h1:((t,b,x)::(p++q)).Perm ((t,b,x)::(p'++q')):=(List.perm_middle.symm.trans hp).trans List.perm_middle
 exact(List.perm_middle.trans ((h1.cons_inv).cons _)).trans List.perm_middle.symm
theorem Inv.perm{P:Program}[Glob P]{M:Mem}{w0:Base}{w:World}{σ σ':Store}(hI:Inv P M w0 σ w)(h:σ.Perm σ'):Inv P M w0 σ' w:=
 ⟨hI.os,hI.tape,hI.output,hI.size,hI.old,hI.cH,fun e he=>hI.st e (h.mem_iff.2 he),((h.map _).nodup_iff).1 hI.nd,hI.gl,hI.gw,hI.bm⟩
theorem alK{P:Program}[Glob P]{cfg:Nat→Nat}{d:Option Nat}{rg:af}{σ:Store}{K:AV→Prop}{op:aw}(hl:op.cls=0)(h:aJ P cfg d rg σ K op):
  ∃ x,K x∧∀ (σ':Store) (K':AV→Prop),K' x→aJ P cfg d rg σ' K' op:=by
 cases op with
 |box t x=>exact h.elim
 |alloc t z=>exact h.elim
 |store n x y=>exact h.elim
 |append t n k z x y=>exact h.elim
 |exts op ty ti args=>exact h.elim
 |panic x=>exact h.elim
 |cQ op ty ti args=>obtain⟨r,hp,hk⟩:=h;exact⟨r,hk,fun σ' K' h=>⟨r,hp,h⟩⟩
 |call f args=>obtain⟨r,hp,hk⟩:=h;exact⟨r,hk,fun σ' K' h=>⟨r,hp,h⟩⟩
 |fR f args=>
  simp only[aJ]at h
  simp only[aJ,al]
  split at h
  ·rename_i g b c he
   obtain⟨bE,r,hp,hk⟩:=h
   (try rw[he])
   exact⟨r,hk,fun σ' K' h=>⟨bE,r,hp,h⟩⟩
  ·rename_i g b c he
   obtain⟨bE,r,hp,hk⟩:=h
   (try rw[he])
   exact⟨r,hk,fun σ' K' h=>⟨bE,r,hp,h⟩⟩
  grind
 |dZ t ag parts=>
  simp only[aJ]at h
  simp only[aJ,al]
  split at h
  ·rename_i rows he
   (try rw[he])
   obtain⟨hn,h⟩:=h
   split at h
   ·rename_i e;exact⟨_,h,fun σ' K' hk=>⟨hn,by first|exact hk|(rw[e];exact hk)|(simp[e];exact hk)⟩⟩
   ·rename_i e;exact⟨_,h,fun σ' K' hk=>⟨hn,by first|exact hk|(rw[e];exact hk)|(simp[e];exact hk)⟩⟩
   ·exact h.elim
  ·exact h.elim
 |len s x=>
  cases s<;>simp only[aJ]at h<;>simp only[aJ]
  ·split at h
   ·rename_i b n c he;(try rw[he]);exact⟨_,h,fun σ' K' hk=>hk⟩
   ·rename_i tg b o n c he;(try rw[he]);exact⟨_,h,fun σ' K' hk=>hk⟩
   ·rename_i nn ez rows he;(try rw[he]);exact⟨_,h,fun σ' K' hk=>hk⟩
   ·rename_i ez tg b u c rows he;(try rw[he]);exact⟨_,h,fun σ' K' hk=>hk⟩
   ·exact h.elim
  ·split at h
   ·rename_i s he;(try rw[he]);exact⟨_,h,fun σ' K' hk=>hk⟩
   ·exact h.elim
 |mv x=>exact⟨_,h,fun σ' K' hk=>hk⟩
 |oe t x=>exact⟨_,h,fun σ' K' hk=>hk⟩
 |pick c x y=>
  simp only[aJ,al]at h
  simp only[aJ,al]
  split at h
  ·rename_i t he;(try rw[he]);exact⟨_,h,fun σ' K' hk=>hk⟩
  ·exact h.elim
 |build z parts=>
  simp only[aJ,al]at h
  simp only[aJ,al]
  split at h
  ·rename_i t he;(try rw[he]);exact⟨_,h,fun σ' K' hk=>hk⟩
  ·exact h.elim
 |load g n x=>cases hl
 |nk x=>
  simp only[aJ,al]at h
  simp only[aJ,al]
  split at h<;>first|exact h.elim|(rename_i he;(try rw[he]);exact⟨_,h,fun σ' K' hk=>hk⟩)
 |bin op x y=>
  simp only[aJ,al]at h
  simp only[aJ,al]
  split at h
  ·rename_i u v hu hv
   (try rw[hu,hv])
   obtain⟨z,hz,qy⟩:=VG h
   exact⟨.v z,hz,fun σ' K' hk=>qy _ hk⟩
  ·exact h.elim
 |jR n k x y=>
  simp only[aJ,al]at h
  simp only[aJ,al]
  split at h
  ·rename_i t he;(try rw[he]);exact⟨_,h,fun σ' K' hk=>hk⟩
  ·exact h.elim
 |eqs n k x y=>
  simp only[aJ,al]at h
  simp only[aJ,al]
  split at h
  ·rename_i xs ys h1 h2
   (try rw[h1,h2])
   split at h
   ·rename_i t he;(try simp only[he]);exact⟨_,h,fun σ' K' hk=>hk⟩
   ·exact h.elim
  ·exact h.elim
 |un op x=>
  simp only[aJ,al]at h
  simp only[aJ,al]
  split at h
  ·rename_i u hu
   (try rw[hu])
   split at h
   ·rename_i t he;(try simp only[he]);exact⟨_,h,fun σ' K' hk=>hk⟩
   ·exact h.elim
  ·exact h.elim
 |mI k x=>
  simp only[aJ,al]at h
  simp only[aJ,al]
  split at h
  ·rename_i k' n he;(try rw[he]);exact⟨_,h,fun σ' K' hk=>hk⟩
  ·exact h.elim
 |nF x=>
  simp only[aJ,al]at h
  simp only[aJ,al]
  split at h
  ·rename_i s he;(try rw[he]);exact⟨_,h,fun σ' K' hk=>hk⟩
  ·exact h.elim
 |od fn first captured=>
  simp only[aJ,al]at h
  simp only[aJ,al]
  split at h
  ·rename_i u v h1 h2;(try rw[h1,h2]);exact⟨_,h,fun σ' K' hk=>hk⟩
  ·split at h
   ·exact⟨_,h,fun σ' K' hk=>hk⟩
   ·exact h.elim
 |slice ag x lo hi=>
  simp only[aJ,al]at h
  simp only[aJ,al]
  split at h
  ·rename_i cL eW h1 h2
   (try rw[h1,h2])
   split at h
   ·rename_i nn e rows he;(try simp only[he]);exact⟨_,h.2.2.2.2,fun σ' K' hk=>⟨h.1,h.2.1,h.2.2.1,h.2.2.2.1,hk⟩⟩
   ·rename_i e tg b u c rows he;(try simp only[he]);exact⟨_,h.2.2.2.2,fun σ' K' hk=>⟨h.1,h.2.1,h.2.2.1,h.2.2.2.1,hk⟩⟩
   ·rename_i he;(try simp only[he]);exact⟨_,h.2.2,fun σ' K' hk=>⟨h.1,h.2.1,hk⟩⟩
   ·exact h.elim
  ·exact h.elim
 |dk off x=>
  simp only[aJ,al]at h
  simp only[aJ,al]
  split at h<;>first|exact h.elim|(rename_i he;(try rw[he]);exact⟨_,h,fun σ' K' hk=>hk⟩)
 |field g o n x=>
  simp only[aJ,al]at h
  simp only[aJ,al]
  split at h
  ·rename_i l hl
   (try rw[hl])
   obtain⟨ar,h⟩:=h
   cases g with
   |true=>simp only[Y2]at h ⊢;exact⟨_,h,fun σ' K' hk=>⟨ar,hk⟩⟩
   |false=>
    simp only[ZV,Y8]at h ⊢
    split at h
    ·rename_i y hy;(try rw[hy]);exact⟨_,h,fun σ' K' hk=>⟨ar,hk⟩⟩
    ·exact h.elim
  ·exact h.elim
 |iz ag x i=>
  simp only[aJ,al]at h
  simp only[aJ,al]
  split at h
  ·rename_i k j hi
   (try rw[hi])
   split at h
   ·rename_i nn e rows he;(try simp only[he]);exact⟨_,h.2.2.2,fun σ' K' hk=>⟨h.1,h.2.1,h.2.2.1,hk⟩⟩
   ·rename_i e tg b u c rows he;(try simp only[he]);exact⟨_,h.2.2.2,fun σ' K' hk=>⟨h.1,h.2.1,h.2.2.1,hk⟩⟩
   ·rename_i tg b o n c he;(try simp only[he]);exact⟨_,h.2.2,fun σ' K' hk=>⟨h.1,h.2.1,hk⟩⟩
   ·exact h.elim
  ·exact h.elim
 |mY n ag x i=>
  simp only[aJ,al]at h
  simp only[aJ,al]
  split at h
  ·rename_i k j hi
   (try rw[hi])
   split at h
   ·rename_i tg b o he;(try simp only[he]);exact⟨_,h.2.2,fun σ' K' hk=>⟨h.1,h.2.1,hk⟩⟩
   ·rename_i l he;(try simp only[he]);exact⟨_,h.2.2,fun σ' K' hk=>⟨h.1,h.2.1,hk⟩⟩
   ·rename_i g o he;(try simp only[he]);obtain⟨l,ha,h0,h1,h2,h3⟩:=h;exact⟨_,h3,fun σ' K' hk=>⟨l,ha,h0,h1,h2,hk⟩⟩
   ·exact h.elim
  ·exact h.elim
 |idxs x i=>
  simp only[aJ,al]at h
  simp only[aJ,al]
  split at h
  ·rename_i k j s h1 h2
   (try rw[h1,h2])
   obtain⟨ar,h⟩:=h
   exact⟨_,h,fun σ' K' hk=>⟨ar,hk⟩⟩
  ·exact h.elim
 |extract x i=>
  simp only[aJ,al]at h
  simp only[aJ,al]
  split at h
  ·rename_i xs he
   (try rw[he])
   split at h
   ·rename_i y hy;(try simp only[hy]);exact⟨_,h,fun σ' K' hk=>hk⟩
   ·exact h.elim
  ·rename_i xs he
   (try rw[he])
   split at h
   ·rename_i y hy;(try simp only[hy]);exact⟨_,h,fun σ' K' hk=>hk⟩
   ·exact h.elim
  ·exact h.elim
 |max2 x y=>
  simp only[aJ,al]at h
  simp only[aJ,al]
  split at h
  ·rename_i u v h1 h2
   (try rw[h1,h2])
   split at h
   ·rename_i t he;(try simp only[he]);exact⟨_,h,fun σ' K' hk=>hk⟩
   ·exact h.elim
  ·exact h.elim
 |min2 x y=>
  simp only[aJ,al]at h
  simp only[aJ,al]
  split at h
  ·rename_i u v h1 h2
   (try rw[h1,h2])
   split at h
   ·rename_i t he;(try simp only[he]);exact⟨_,h,fun σ' K' hk=>hk⟩
   ·exact h.elim
  ·exact h.elim
end Go.Sx
