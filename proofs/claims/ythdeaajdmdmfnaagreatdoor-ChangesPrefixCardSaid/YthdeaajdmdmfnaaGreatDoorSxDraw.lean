/-
  The layer Sx, eleventh part: a region whose order is open and whose operations only compute.
-/
import Derived.Test.YthdeaajdmdmfnaaGreatDoorSxCtl
set_option linter.unusedVariables false
set_option linter.unusedSimpArgs false
set_option linter.unusedSectionVars false
namespace Go.Sx
open Go.RowKit
theorem rT{rg ak:ag}{x:Operand}(h:∀ t∈tmpsOf [x],lk rg t=lk ak t):ev rg x=ev ak x:=by
 cases x<;>simp_all [ev,tmpsOf]
theorem ri(x:Operand)(l:List Operand):tmpsOf (x::l)=tmpsOf [x]++tmpsOf l:=by cases x<;>rfl
theorem KM(l l':List Operand):tmpsOf (l++l')=tmpsOf l++tmpsOf l':=by
 induction l with
 |nil=>rfl
 |cons x l ih=>rw[ZG,ri,ri x l,ih,Zb]
theorem lP{rg ak:ag}:∀ (l:List Operand),(∀ t∈tmpsOf l,lk rg t=lk ak t)→aL rg l=aL ak l
 |[],_=>rfl
 |x::l,h=>by
  rw[ri]at h
  simp only[aL]
  rw[rT fun t ht=>h t (Zm _ ht),lP l fun t ht=>h t (Y6 _ ht)]
theorem MW{rg ak:ag}:∀ (l:List (Nat×Nat×Operand)),(∀ t∈tmpsOf (l.map (·.2.2)),lk rg t=lk ak t)→lO rg l=lO ak l
 |[],_=>rfl
 |(o,n,x)::l,h=>by
  rw[Zv,ri]at h
  simp only[lO]
  rw[rT fun t ht=>h t (Zm _ ht),MW l fun t ht=>h t (Y6 _ ht)]
theorem pZ{P:Program}[Glob P]{cfg:Nat→Nat}{d:Option Nat}{rg ak:ag}{σ:Store}{K:AV→Store→Prop}{E:List PanicEntry→Store→Prop}{op:ax}(h:∀ t∈tmpsOf op.opers,lk rg t=lk ak t):
  aj P cfg d rg σ K E op=aj P cfg d ak σ K E op:=by
 have e1:∀ x,x∈op.opers→ev rg x=ev ak x:=fun x hx=>rT fun t ht=>h t (by
  obtain⟨l1,l2,e⟩:=List.append_of_mem hx
  rw[e,KM,ri]
  grind)
 cases op with
 |build z parts=>simp only[aj];rw[MW parts h]
 |dF t ah parts=>simp only[aj];rw[lP parts h]
 |call f args=>simp only[aj];rw[lP args h]
 |fD f args=>
  have hf:ev rg f=ev ak f:=e1 f (by simp[ax.opers])
  have ha:aL rg args=aL ak args:=lP args fun t ht=>h t (by simp only[ax.opers];rw[ri];grind)
  simp only[aj];grind
 |ng fn first captured=>
  have hf:aL rg first=aL ak first:=lP first fun t ht=>h t (by simp only[ax.opers];rw[KM];grind)
  have ha:aL rg captured=aL ak captured:=lP captured fun t ht=>h t (by simp only[ax.opers];rw[KM];grind)
  simp only[aj];grind
 |slice ah x lo hi=>
  have hx:ev rg x=ev ak x:=e1 x (by simp[ax.opers])
  have hl:lo.map (ev rg)=lo.map (ev ak):=by cases lo with
   |none=>rfl
   |some y=>simp only[ZJ];rw[e1 y (by simp[ax.opers])]
  have hh:hi.map (ev rg)=hi.map (ev ak):=by cases hi with
   |none=>rfl
   |some y=>simp only[ZJ];rw[e1 y (by simp[ax.opers])]
  simp only[aj];grind
 |len s x=>cases s<;>(simp only[aj];rw[e1 x (by simp[ax.opers])])
 |alloc t z=>rfl
 |cu op ty ti args=>simp only[aj];rw[lP args h]
 |exts op ty ti args=>simp only[aj];rw[lP args h]
 |pick c x y=>simp only[aj];rw[e1 c (by simp[ax.opers]),e1 x (by simp[ax.opers]),e1 y (by simp[ax.opers])]
 |store n x y=>simp only[aj];rw[e1 x (by simp[ax.opers]),e1 y (by simp[ax.opers])]
 |bin op x y=>simp only[aj];rw[e1 x (by simp[ax.opers]),e1 y (by simp[ax.opers])]
 |ji n k x y=>simp only[aj];rw[e1 x (by simp[ax.opers]),e1 y (by simp[ax.opers])]
 |eqs n k x y=>simp only[aj];rw[e1 x (by simp[ax.opers]),e1 y (by simp[ax.opers])]
 |fe n x y=>simp only[aj];rw[e1 x (by simp[ax.opers]),e1 y (by simp[ax.opers])]
 |me n k x y=>simp only[aj];rw[e1 x (by simp[ax.opers]),e1 y (by simp[ax.opers])]
 |idxs x y=>simp only[aj];rw[e1 x (by simp[ax.opers]),e1 y (by simp[ax.opers])]
 |append t n k z x y=>simp only[aj];rw[e1 x (by simp[ax.opers]),e1 y (by simp[ax.opers])]
 |max2 x y=>simp only[aj];rw[e1 x (by simp[ax.opers]),e1 y (by simp[ax.opers])]
 |min2 x y=>simp only[aj];rw[e1 x (by simp[ax.opers]),e1 y (by simp[ax.opers])]
 |mv x=>simp only[aj];rw[e1 x (by simp[ax.opers])]
 |box t x=>simp only[aj];rw[e1 x (by simp[ax.opers])]
 |load g n x=>simp only[aj];rw[e1 x (by simp[ax.opers])]
 |mo x=>simp only[aj];rw[e1 x (by simp[ax.opers])]
 |un op x=>simp only[aj];rw[e1 x (by simp[ax.opers])]
 |lM k x=>simp only[aj];rw[e1 x (by simp[ax.opers])]
 |mG x=>simp only[aj];rw[e1 x (by simp[ax.opers])]
 |nh t x=>simp only[aj];rw[e1 x (by simp[ax.opers])]
 |panic x=>simp only[aj];rw[e1 x (by simp[ax.opers])]
 |aY n x=>simp only[aj];rw[e1 x (by simp[ax.opers])]
 |field g o n x=>simp only[aj];rw[e1 x (by simp[ax.opers])]
 |extract x i=>simp only[aj];rw[e1 x (by simp[ax.opers])]
def QV(P:Program)[Glob P](cfg:Nat→Nat)(c:CI)(rg:ag)(σ:Store)(x:AV):Prop:=cK P cfg c (fun y σ'=>y=x∧σ'=σ) (fun _ _=>False) rg σ
theorem uc{P:Program}[Glob P]{cfg:Nat→Nat}{c:CI}{rg ak:ag}{σ:Store}{x:AV}(h:∀ t∈c.reads,lk rg t=lk ak t)(hq:QV P cfg c rg σ x):QV P cfg c ak σ x:=by
 unfold QV cK at *
 have h1:∀ K E,aj P cfg c.d rg σ K E c.op=aj P cfg c.d ak σ K E c.op:=fun K E=>pZ fun t ht=>h t (Zm _ ht)
 cases hg:c.g with
 |none=>grind
 |some p=>
  obtain⟨u,want⟩:=p
  have hu:lk rg u=lk ak u:=h u (Y6 _ (by simp[hg]))
  grind
def wG(P:Program)[Glob P](f:FuncId)(as:List AV)(K:AV→Prop):Prop:=∃ r,Pure P f as r∧K r
theorem qcall_congr{P:Program}[Glob P]{f:FuncId}{as as':List AV}{K:AV→Prop}(h:as=as'):wG P f as K=wG P f as' K:=by rw[h]
def aK(P:Program)[Glob P](cfg:Nat→Nat)(d:Option Nat)(rg:ag)(σ:Store)(K:AV→Prop):ax→Prop
 | .box .. | .alloc .. | .store .. | .append .. | .exts .. | .panic .. =>False
 | .cu op ty ti args=>∃ r,jC P op ty ti args (aL rg args) r∧K r
 | .fD f args=>match ev rg f with
  | .v (.func (.func f) a c)=>gR P f=true∧wG P f (a.toList.map .v++aL rg args++c.toList.map .v) K
  | .cl f a c=>gR P f=true∧wG P f (a++aL rg args++c) K
  |_=>False
 | .call f args=>wG P f (aL rg args) K
 | .dF _ ah parts=>match rowsOf ah (aL rg parts)with
  |some rows=>rows.length≤1000000∧match cfg (d.getD 0)with
   |0=>K (.sl true ah rows)
   |3=>K (.fl ah rows)
   |_=>False
  |none=>False
 | .len true x=>match ev rg x with
  | .v (.string s)=>K (.v (.int .i64 s.size))
  |_=>False
 | .len false x=>match ev rg x with
  | .v (.slice _ n _)=>K (.v (.int .i64 n))
  | .ms _ _ _ n _=>K (.v (.int .i64 n))
  | .sl _ _ rows=>K (.v (.int .i64 rows.length))
  | .own _ _ _ _ _ rows=>K (.v (.int .i64 rows.length))
  |_=>False
 |op=>aj P cfg d rg σ (fun x _=>K x) (fun _ _=>False) op
theorem SU{op:BinOp}{a b:Value}{K:Value→Prop}(h:lE op a b K):∃ x,K x∧∀ K':Value→Prop,K' x→lE op a b K':=by
 unfold lE at h
 split at h
 ·cases op<;>simp only at h<;>simp only[lE]
  all_goals grind
 ·cases op<;>simp only at h<;>simp only[lE]
  case add=>grind
  case eql=>grind
  case neq=>grind
  case lss=>grind
  case leq=>grind
  case gtr=>grind
  grind
 grind
theorem KX{P:Program}[Glob P]{cfg:Nat→Nat}{d:Option Nat}{rg:ag}{σ:Store}{K:AV→Prop}{op:ax}(h:aK P cfg d rg σ K op):
  ∃ x,K x∧∀ (K':AV→Store→Prop) (E':List PanicEntry→Store→Prop),K' x σ→aj P cfg d rg σ K' E' op:=by
 cases op with
 |box t x=>exact h.elim
 |alloc t z=>exact h.elim
 |store n x y=>exact h.elim
 |append t n k z x y=>exact h.elim
 |exts op ty ti args=>exact h.elim
 |panic x=>exact h.elim
 |cu op ty ti args=>obtain⟨r,hp,hk⟩:=h;exact⟨r,hk,fun K' E' h=>(hp.sp σ).mono fun x σ' ⟨e1,e2⟩=>by grind⟩
 |call f args=>obtain⟨r,hp,hk⟩:=h;exact⟨r,hk,fun K' E' h=>wS hp h⟩
 |fD f args=>
  simp only[aK]at h
  simp only[aj]
  split at h
  ·rename_i g b c he
   obtain⟨bC,r,hp,hk⟩:=h
   (try rw[he])
   exact⟨r,hk,fun K' E' h=>⟨bC,wS hp h⟩⟩
  ·rename_i g b c he
   obtain⟨bC,r,hp,hk⟩:=h
   (try rw[he])
   exact⟨r,hk,fun K' E' h=>⟨bC,wS hp h⟩⟩
  grind
 |dF t ah parts=>
  simp only[aK]at h
  simp only[aj]
  split at h
  ·rename_i rows he
   (try rw[he])
   obtain⟨hn,h⟩:=h
   split at h
   ·rename_i e;exact⟨_,h,fun K' E' hk=>⟨hn,by simp only[e];exact hk⟩⟩
   ·rename_i e;exact⟨_,h,fun K' E' hk=>⟨hn,by simp only[e];exact hk⟩⟩
   ·exact h.elim
  ·exact h.elim
 |len s x=>
  cases s<;>simp only[aK]at h<;>simp only[aj]
  ·split at h
   ·rename_i b n c he;(try rw[he]);exact⟨_,h,fun K' E' hk=>hk⟩
   ·rename_i tg b o n c he;(try rw[he]);exact⟨_,h,fun K' E' hk=>hk⟩
   ·rename_i nn ez rows he;(try rw[he]);exact⟨_,h,fun K' E' hk _=>hk⟩
   ·rename_i ez tg b u c rows he;(try rw[he]);exact⟨_,h,fun K' E' hk _=>hk⟩
   ·exact h.elim
  ·split at h
   ·rename_i s he;(try rw[he]);exact⟨_,h,fun K' E' hk=>hk⟩
   ·exact h.elim
 |mv x=>exact⟨_,h,fun K' E' hk=>hk⟩
 |nh t x=>exact⟨_,h,fun K' E' hk=>hk⟩
 |pick c x y=>
  simp only[aK,aj]at h
  simp only[aj]
  split at h
  ·rename_i t he;(try rw[he]);exact⟨_,h,fun K' E' hk=>hk⟩
  ·exact h.elim
 |build z parts=>
  simp only[aK,aj]at h
  simp only[aj]
  split at h
  ·rename_i t he;(try rw[he]);exact⟨_,h,fun K' E' hk=>hk⟩
  ·exact h.elim
 |load g n x=>
  simp only[aK,aj]at h
  simp only[aj]
  split at h
  ·rename_i tg b o he
   (try rw[he])
   split at h
   ·rename_i b' l hb
    obtain⟨rfl,h⟩:=h
    (try simp only[hb])
    cases g with
    |true=>simp only[YX]at h ⊢;exact⟨_,h.2,fun K' E' hk=>⟨trivial,h.1,hk⟩⟩
    |false=>
     simp only[ZU,YV]at h ⊢
     split at h
     ·rename_i y hy;(try rw[hy]);exact⟨_,h,fun K' E' hk=>⟨trivial,hk⟩⟩
     ·exact h.elim
   ·exact h.elim
  ·rename_i l he
   (try rw[he])
   cases g with
   |true=>simp only[YX]at h ⊢;exact⟨_,h.2,fun K' E' hk=>⟨h.1,hk⟩⟩
   |false=>
    simp only[ZU,YV]at h ⊢
    split at h
    ·rename_i y hy;(try rw[hy]);exact⟨_,h,fun K' E' hk=>hk⟩
    ·exact h.elim
  ·rename_i gv he
   (try rw[he])
   split at h
   ·rename_i l hl
    (try simp only[hl])
    cases g with
    |true=>simp only[YX]at h ⊢;exact⟨_,h.2,fun K' E' hk=>⟨h.1,hk⟩⟩
    |false=>
     simp only[ZU,YV]at h ⊢
     split at h
     ·rename_i y hy;(try rw[hy]);exact⟨_,h,fun K' E' hk=>hk⟩
     ·exact h.elim
   ·exact h.elim
  ·exact h.elim
 |mo x=>
  simp only[aK,aj]at h
  simp only[aj]
  split at h<;>first|exact h.elim|(rename_i he;(try rw[he]);exact⟨_,h,fun K' E' hk=>hk⟩)
 |bin op x y=>
  simp only[aK,aj]at h
  simp only[aj]
  split at h
  ·rename_i u v hu hv
   (try rw[hu,hv])
   obtain⟨z,hz,pI⟩:=SU h
   exact⟨.v z,hz,fun K' E' hk=>pI _ hk⟩
  ·exact h.elim
 |ji n k x y=>
  simp only[aK,aj]at h
  simp only[aj]
  split at h
  ·rename_i t he;(try rw[he]);exact⟨_,h,fun K' E' hk=>hk⟩
  ·exact h.elim
 |eqs n k x y=>
  simp only[aK,aj]at h
  simp only[aj]
  split at h
  ·rename_i xs ys h1 h2
   (try rw[h1,h2])
   split at h
   ·rename_i t he;(try simp only[he]);exact⟨_,h,fun K' E' hk=>hk⟩
   ·exact h.elim
  ·exact h.elim
 |un op x=>
  simp only[aK,aj]at h
  simp only[aj]
  split at h
  ·rename_i u hu
   (try rw[hu])
   split at h
   ·rename_i t he;(try simp only[he]);exact⟨_,h,fun K' E' hk=>hk⟩
   ·exact h.elim
  ·exact h.elim
 |lM k x=>
  simp only[aK,aj]at h
  simp only[aj]
  split at h
  ·rename_i k' n he;(try rw[he]);exact⟨_,h,fun K' E' hk=>hk⟩
  ·exact h.elim
 |mG x=>
  simp only[aK,aj]at h
  simp only[aj]
  split at h
  ·rename_i s he;(try rw[he]);exact⟨_,h,fun K' E' hk=>hk⟩
  ·exact h.elim
 |ng fn first captured=>
  simp only[aK,aj]at h
  simp only[aj]
  split at h
  ·rename_i u v h1 h2;(try rw[h1,h2]);exact⟨_,h,fun K' E' hk=>hk⟩
  ·split at h
   ·exact⟨_,h,fun K' E' hk=>hk⟩
   ·exact h.elim
 |slice ah x lo hi=>
  simp only[aK,aj]at h
  simp only[aj]
  split at h
  ·rename_i ck ek h1 h2
   (try rw[h1,h2])
   split at h
   ·rename_i nn e rows he;(try simp only[he]);exact⟨_,h.2.2.2.2,fun K' E' hk=>⟨h.1,h.2.1,h.2.2.1,h.2.2.2.1,hk⟩⟩
   ·rename_i e tg b u c rows he;(try simp only[he]);exact⟨_,h.2.2.2.2,fun K' E' hk=>⟨h.1,h.2.1,h.2.2.1,h.2.2.2.1,hk⟩⟩
   ·rename_i he;(try simp only[he]);exact⟨_,h.2.2,fun K' E' hk=>⟨h.1,h.2.1,hk⟩⟩
   ·exact h.elim
  ·exact h.elim
 |aY off x=>
  simp only[aK,aj]at h
  simp only[aj]
  split at h<;>first|exact h.elim|(rename_i he;(try rw[he]);exact⟨_,h,fun K' E' hk=>hk⟩)
 |field g o n x=>
  simp only[aK,aj]at h
  simp only[aj]
  split at h
  ·rename_i l hl
   (try rw[hl])
   obtain⟨aw,h⟩:=h
   cases g with
   |true=>simp only[YX]at h ⊢;exact⟨_,h,fun K' E' hk=>⟨aw,hk⟩⟩
   |false=>
    simp only[ZU,YV]at h ⊢
    split at h
    ·rename_i y hy;(try rw[hy]);exact⟨_,h,fun K' E' hk=>⟨aw,hk⟩⟩
    ·exact h.elim
  ·exact h.elim
 |fe ah x i=>
  simp only[aK,aj]at h
  simp only[aj]
  split at h
  ·rename_i k j hi
   (try rw[hi])
   split at h
   ·rename_i nn e rows he;(try simp only[he]);exact⟨_,h.2.2.2,fun K' E' hk=>⟨h.1,h.2.1,h.2.2.1,hk⟩⟩
   ·rename_i e tg b u c rows he;(try simp only[he]);exact⟨_,h.2.2.2,fun K' E' hk=>⟨h.1,h.2.1,h.2.2.1,hk⟩⟩
   ·rename_i tg b o n c he;(try simp only[he]);exact⟨_,h.2.2,fun K' E' hk=>⟨h.1,h.2.1,hk⟩⟩
   ·exact h.elim
  ·exact h.elim
 |me n ah x i=>
  simp only[aK,aj]at h
  simp only[aj]
  split at h
  ·rename_i k j hi
   (try rw[hi])
   split at h
   ·rename_i tg b o he;(try simp only[he]);exact⟨_,h.2.2,fun K' E' hk=>⟨h.1,h.2.1,hk⟩⟩
   ·rename_i l he;(try simp only[he]);exact⟨_,h.2.2,fun K' E' hk=>⟨h.1,h.2.1,hk⟩⟩
   ·rename_i g o he;(try simp only[he]);obtain⟨l,ha,h0,h1,h2,h3⟩:=h;exact⟨_,h3,fun K' E' hk=>⟨l,ha,h0,h1,h2,hk⟩⟩
   ·exact h.elim
  ·exact h.elim
 |idxs x i=>
  simp only[aK,aj]at h
  simp only[aj]
  split at h
  ·rename_i k j s h1 h2
   (try rw[h1,h2])
   obtain⟨aw,h⟩:=h
   exact⟨_,h,fun K' E' hk=>⟨aw,hk⟩⟩
  ·exact h.elim
 |extract x i=>
  simp only[aK,aj]at h
  simp only[aj]
  split at h
  ·rename_i xs he
   (try rw[he])
   split at h
   ·rename_i y hy;(try simp only[hy]);exact⟨_,h,fun K' E' hk=>hk⟩
   ·exact h.elim
  ·rename_i xs he
   (try rw[he])
   split at h
   ·rename_i y hy;(try simp only[hy]);exact⟨_,h,fun K' E' hk=>hk⟩
   ·exact h.elim
  ·exact h.elim
 |max2 x y=>
  simp only[aK,aj]at h
  simp only[aj]
  split at h
  ·rename_i u v h1 h2
   (try rw[h1,h2])
   split at h
   ·rename_i t he;(try simp only[he]);exact⟨_,h,fun K' E' hk=>hk⟩
   ·exact h.elim
  ·exact h.elim
 |min2 x y=>
  simp only[aK,aj]at h
  simp only[aj]
  split at h
  ·rename_i u v h1 h2
   (try rw[h1,h2])
   split at h
   ·rename_i t he;(try simp only[he]);exact⟨_,h,fun K' E' hk=>hk⟩
   ·exact h.elim
  ·exact h.elim
def tR(P:Program)[Glob P](cfg:Nat→Nat)(c:CI)(K:AV→Prop)(rg:ag)(σ:Store):Prop:=
 match c.g with
 |none=>aK P cfg c.d rg σ K c.op
 |some (t,want)=>match lk rg t with
  | .v (.bool b)=>(b=want→aK P cfg c.d rg σ K c.op)∧(b= !want→K (.v undef))
  | .v (.tuple _)=>K (.v undef)
  |_=>False
theorem SX{P:Program}[Glob P]{cfg:Nat→Nat}{c:CI}{rg:ag}{σ:Store}{K:AV→Prop}(h:tR P cfg c K rg σ):∃ x,K x∧QV P cfg c rg σ x:=by
 unfold tR at h
 unfold QV cK
 cases hg:c.g with
 |none=>rw[hg]at h;obtain⟨x,hx,hv⟩:=KX h;grind
 |some p=>
  obtain⟨u,want⟩:=p
  rw[hg]at h
  simp only at h ⊢
  split at h
  ·rename_i b he
   by_cases hb:b=want
   ·obtain⟨x,hx,hv⟩:=KX (h.1 hb)
    grind
   ·have mP:b= !want:=by cases b<;>cases want<;>simp_all
    grind
  ·grind
  grind
def oO(P:Program)[Glob P](cfg:Nat→Nat):List CI→(K:ag→Prop)→ag→Store→Prop
 |[],K,rg,_=>K rg
 |c::l,K,rg,σ=>match c.g with
  |none=>aK P cfg c.d rg σ (fun x=>oO P cfg l K (bz c.d x rg) σ) c.op
  |some (t,want)=>match lk rg t with
   | .v (.bool b)=>Gd b want (aK P cfg c.d ((t,.v (.bool want))::rg) σ (fun x=>oO P cfg l K (bz c.d x ((t,.v (.bool want))::rg)) σ) c.op)
     (oO P cfg l K (bz c.d (.v undef) ((t,.v (.bool !want))::rg)) σ)
   | .v (.tuple _)=>oO P cfg l K (bz c.d (.v undef) rg) σ
   |_=>False
theorem S3{P:Program}[Glob P]{cfg:Nat→Nat}{c:CI}{l:List CI}{K:ag→Prop}{rg:ag}{σ:Store}(h:oO P cfg (c::l) K rg σ):
  ∃ ak,(∀ i,lk ak i=lk rg i)∧tR P cfg c (fun x=>oO P cfg l K (bz c.d x ak) σ) ak σ:=by
 simp only[oO]at h
 split at h
 ·exact⟨rg,fun _=>rfl,by unfold tR;grind⟩
 ·rename_i t want hg
  split at h
  ·rename_i b hb
   by_cases lT:b=want
   ·subst lT
    have e:lk ((t,AV.v (.bool b))::rg) t= .v (.bool b):=by simp[lk,YA]
    refine⟨_,DQ hb,?_⟩
    unfold tR
    rw[hg]
    simp only[e]
    exact⟨fun _=>h.l rfl,fun h'=>by grind⟩
   ·have mP:b= !want:=by cases b<;>cases want<;>simp_all
    subst mP
    have e:lk ((t,AV.v (.bool !want))::rg) t= .v (.bool !want):=by simp[lk,YA]
    refine⟨_,DQ hb,?_⟩
    unfold tR
    rw[hg]
    simp only[e]
    exact⟨fun h'=>absurd h' lT,fun _=>h.r rfl⟩
  ·exact⟨rg,fun _=>rfl,by unfold tR;grind⟩
  grind
theorem x4{rg ak:ag}(h:∀ i,lk ak i=lk rg i)(d:Option Nat)(x:AV)(i:Nat):lk (bz d x ak) i=lk (bz d x rg) i:=by
 cases d with
 |none=>exact h i
 |some d=>simp only[bz,lk];rw[h]
theorem Qn(i j:Nat)(x:AV)(r:ag):lk ((i,x)::r) j=if i=j then x else lk r j:=by
 simp only[lk]
 simp_all
def dA:List CI→List AV→ag→ag
 |c::l,x::xs,rg=>dA l xs (bz c.d x rg)
 |_,_,rg=>rg
theorem S1{P:Program}[Glob P]{cfg:Nat→Nat}{σ:Store}{K:ag→Prop}:∀ (l:List CI) (rg ej:ag),(∀ i,lk rg i=lk ej i)→oO P cfg l K rg σ→
  ∃ xs:List AV,xs.length=l.length∧(∃ fg,K fg∧∀ i,lk fg i=lk (dA l xs ej) i)∧∀ i (h:i<l.length) (h':i<xs.length),QV P cfg l[i] (dA (l.take i) (xs.take i) ej) σ xs[i]
 |[],rg,ej,he,h=>⟨[],rfl,⟨rg,h,he⟩,fun i h=>absurd h (by simp)⟩
 |c::l,rg,ej,he,h=>by
  obtain⟨ak,jO,hv⟩:=S3 h
  obtain⟨x,hx,hq⟩:=SX hv
  have On:∀ i,lk ak i=lk ej i:=fun i=>(jO i).trans (he i)
  obtain⟨xs,h1,h2,h3⟩:=S1 l _ (bz c.d x ej) (x4 On c.d x) hx
  refine⟨x::xs,by simp[h1],h2,fun i hi cD=> ?_⟩
  cases i with
  |zero=>exact uc (fun t _=>On t) hq
  |succ i=>simpa[dA]using h3 i (by grind) (by grind)
theorem ajk{P:Program}[Glob P]{cfg:Nat→Nat}{d:Option Nat}{rg:ag}{σ:Store}{K:AV→Prop}{op:ax}(h4:op.cls=4)(h:aK P cfg d rg σ K op):False:=by
 cases op<;>simp only[ax.cls,reduceCtorEq,Nat.reduceEqDiff,Nat.zero_ne_add_one]at h4<;>exact h
theorem S2{P:Program}[Glob P]{cfg:Nat→Nat}{σ:Store}{K:ag→Prop}:∀ (l:List CI) (rg:ag),(∀ c∈l,c.op.cls≤1∨(c.op.cls=4∧c.g=none))→oO P cfg l K rg σ→∀ c∈l,c.op.cls≤1
 |[],_,_,_=>fun _ h=>by cases h
 |c::l,rg,hc,h=>by
  obtain⟨ak,_,hv⟩:=S3 h
  obtain⟨x,hx,_⟩:=SX hv
  intro c' gb
  rcases ZK.1 gb with rfl|gb
  ·rcases hc c' (by simp)with h1|⟨h1,h2⟩
   ·exact h1
   ·exfalso
    unfold tR at hv
    simp only[h2]at hv
    exact ajk h1 hv
  ·exact S2 l _ (fun c h=>hc c (by simp[h])) hx c' gb
theorem vx:∀ (l:List CI) (xs:List AV) (rg:ag) (t:Nat),(∀ c∈l,c.d≠some t)→lk (dA l xs rg) t=lk rg t
 |[],xs,rg,t,_=>rfl
 |c::l,[],rg,t,_=>rfl
 |c::l,x::xs,rg,t,h=>by
  simp only[dA]
  rw[vx l xs _ t (fun c' hc=>h c' (ZL _ hc))]
  have hc:=h c (by simp)
  cases hd:c.d with
  |none=>rfl
  |some d=>
   have:Nat.beq d t=false:=by rw[← Ya,Nat.beq_eq];grind
   simp[bz,lk,this]
theorem AU:∀ (l:List CI) (xs:List AV) (rg:ag),(l.map (·.d)).Nodup→xs.length=l.length→∀ j (h:j<l.length) (h':j<xs.length) t,l[j].d=some t→lk (dA l xs rg) t=xs[j]
 |[],xs,rg,_,_,j,h,_,_,_=>absurd h (by simp)
 |c::l,[],rg,_,hl,_,_,_,_,_=>by grind
 |c::l,x::xs,rg,hn,hl,j,h,h',t,hd=>by
  simp only[Zv,Yy]at hn
  simp only[dA]
  cases j with
  |zero=>
   simp at hd ⊢
   rw[vx l xs _ t (fun c' hc e=>hn.1 (by grind))]
   simp[bz,hd,lk,YA]
  |succ j=>exact AU l xs _ hn.2 (by grind) j (by grind) (by grind) t (by grind)
theorem filter_lt{α:Type}(p q:α→Bool):∀ (l:List α),(∀ x∈l,q x=true→p x=true)→(∃ x∈l,p x=true∧q x=false)→(l.filter q).length+1≤(l.filter p).length
 |[],_,⟨x,hx,_⟩=>by grind
 |y::l,h,⟨x,hx,hp,hq⟩=>by
  have hle:∀ (l:List α),(∀ x∈l,q x=true→p x=true)→(l.filter q).length≤(l.filter p).length:=by
   intro l
   induction l with
   |nil=>simp
   |cons z l ih=>
    grind
  rcases ZK.1 hx with rfl|hx
  ·grind
  ·have ih:=filter_lt p q l (fun x hx=>h x (by simp[hx])) ⟨x,hx,hp,hq⟩
   grind
section
variable {P:Program}[Glob P]{M:Mem}{w0:Base}{w:World}{σ:Store}{rg:ag}{a:Act}{cfg:Nat→Nat}{N:Nat}
theorem Ch{ops:Array Oper}:∀ (os:List Oper) (l:List CI),ia P N ops os=some l→l.length=os.length∧∀ i (h:i<os.length) (h':i<l.length),qk P N ops os[i]=some l[i]
 |[],l,h=>by simp only[ia,ZY]at h;grind
 |o::os,l,h=>by
  simp only[ia]at h
  split at h
  ·obtain⟨l',h1,rfl⟩:=Z9.1 h
   obtain⟨h2,h3⟩:=Ch os l' h1
   grind
  grind
theorem aaD{ops:Array Oper}{l:List CI}(h:qo ops l=true):∃ k,∃ hk:k<l.length,pQ l 0=some k∧l[k].op.cls=4:=by
 unfold qo at h
 split at h
 ·cases h
 ·rename_i k e
  obtain⟨i,h1,h2,h3,_⟩:=JT _ _ e
  obtain rfl:k=i:=by omega
  exact⟨k,h1,e,h3⟩
theorem ML{ops:Array Oper}{l:List CI}(h:qn ops l=true∨qo ops l=true):∀ c∈l,c.op.cls≤1∨(c.op.cls=4∧c.g=none):=fun c hc=>by
 have key:c.d.isSome=true∧(c.op.cls.ble 1=true∨(c.op.cls.beq 4=true∧c.g.isNone=true)):=by
  rcases h with h|h
  ·unfold qn at h
   simp_all
  ·unfold qo at h
   split at h
   ·cases h
   ·simp only[Z8,Zz,YO]at h
    exact h.1.2 c hc
 simp_all
def BD(P:Program)[Glob P](cfg:Nat→Nat)(K:ag→Prop)(l:List CI)(rg:ag)(σ:Store):Prop:=
 ∃ xs:List AV,xs.length=l.length∧(∃ fg,K fg∧∀ i,lk fg i=lk (dA l xs rg) i)∧∀ i (h:i<l.length) (h':i<xs.length),QV P cfg l[i] (dA (l.take i) (xs.take i) rg) σ xs[i]
theorem wH{l:List CI}{Q:Exit→ag→Store→Prop}(cfg:Nat→Nat)(h:(∀ c∈l,c.op.cls≤1∨(c.op.cls=4∧c.g=none))→BD P cfg (fun ak=>Q .normal ak σ) l rg σ∧∀ c∈l,c.op.cls≤1):SW P N (.c8 l) Q rg σ:=by
 intro c hc M w0 a w hI hR hN hD
 obtain⟨id,ops,rfl,hl,cw,sE⟩:=eX hc
 obtain⟨hlen,sF⟩:=Ch ops.toList l hl
 have sI:l.length=ops.size:=by simpa using hlen
 obtain⟨⟨xs,cQ,⟨fg,hK,hF⟩,hQV⟩,db⟩:=h (ML cw)
 replace cw:qn ops l=true:=by
  rcases cw with cw|cw
  ·exact cw
  ·exfalso
   obtain⟨k,hk,_,h4⟩:=aaD cw
   have:=db _ (Zf hk)
   omega
 unfold qn at cw
 simp only[Y1,XU]at cw
 simp only[Z8,ZR]at cw
 obtain⟨⟨hnd,_⟩,pn⟩:=cw
 rw[Zz]at pn
 have fb:∀ i (hi:i<l.length) (ho:i<ops.size),(∀ e∈ops[i].after,Region.binds .any e=true→e.on<i)∧∀ t∈l[i].reads,(∀ c∈l,c.d≠some t)∨∃ j,∃ hj:j<l.length,l[j].d=some t∧j<i∧∃ e∈ops[i].after,Region.binds .any e=true∧e.on=j:=by
  intro i hi ho
  have hm:((l[i],ops[i]),i)∈(l.zip ops.toList).zipIdx:=by
   rw[List.mem_zipIdx_iff_getElem?]
   simp[List.getElem?_zip_eq_some,hi,ho]
  have:=pn _ hm
  simp only[Z8]at this
  obtain⟨h1,h2⟩:=this
  have hb:∀ e∈ops[i].after,Region.binds .any e=true→e.on<i:=by
   intro e he kU
   have:=ZB.1 h1 e he
   simpa[kU]using this
  refine⟨hb,fun t ht=> ?_⟩
  have h3:=Zz.1 h2 t ht
  split at h3
  ·rename_i j hj
   right
   rw[XH]at h3
   obtain⟨m,ew,h4⟩:=h3
   simp only[Z8,beq_iff_eq]at h4
   have kr:j<l.length∧(l.map (·.d))[j]? =some (some t):=by
    obtain⟨i',h5,h6⟩:=JV _ _ hj
    obtain rfl:j=i':=by omega
    exact⟨by have:=(ZE.1 h6).1;simpa using this,h6⟩
   obtain⟨qz,ik⟩:=kr
   refine⟨j,qz,by simpa[qz]using ik,?_,ops[i].after[m],Yc ew,h4.1,h4.2⟩
   rw[← h4.2]
   exact hb _ (Yc ew) h4.1
  ·rename_i hj
   left
   intro c hc e
   exact JU _ _ hj (by rw[← e];exact Yk hc)
 let RG:=dA l xs rg
 have xn:∀ j (h:j<l.length) t,l[j].d=some t→lk RG t=xs[j]'(by omega):=fun j h t ht=>AU l xs rg hnd cQ j h (by omega) t ht
 have xo:∀ t,(∀ c∈l,c.d≠some t)→lk RG t=lk rg t:=fun t ht=>vx l xs rg t ht
 have hQ:∀ i (hi:i<l.length),QV P cfg l[i] RG σ (xs[i]'(by omega)):=by
  intro i hi
  refine uc (fun t ht=> ?_) (hQV i hi (by omega))
  rcases(fb i hi (by omega)).2 t ht with hn|⟨j,hj,cH,il,_⟩
  ·rw[xo t hn]
   exact vx _ _ _ _ (fun c hc=>hn c (YS hc))
  ·rw[xn j hj t cH]
   have e1:(l.take i)[j]'(by simp;omega)=l[j]:=by simp
   have e2:(xs.take i)[j]'(by simp;omega)=xs[j]'(by omega):=by simp
   rw[← e2]
   refine AU (l.take i) (xs.take i) rg ?_ (by simp[cQ]) j (by simp;omega) (by simp;omega) t (by rw[e1];exact cH)
   rw[Yu]
   exact hnd.sublist (List.take_sublist _ _)
 refine F8 sE ?_
 have main:∀ (fuel:Nat) (listed:Array Bool) (a:Act) (w:World),listed.size=ops.size→((List.range ops.size).filter (fun i=> !listed.getD i true)).length≤fuel→
   (∃ M2,M.le M2∧Inv P M2 w0 σ w∧a.tmps.size=N∧a.defers=Glob.df P∧(∀ t,(∀ c∈l,c.d≠some t)→R M2 (lk rg t) (a.tmps.getD t undef))∧∀ j (h:j<l.length) t,listed.getD j true=true→l[j].d=some t→R M2 (xs[j]'(by omega)) (a.tmps.getD t undef))→
   wpAny P .any ops (jh P M w0 N Q) fuel listed a w:=by
  intro fuel
  induction fuel with
  |zero=>
   rintro listed a w bg xv ⟨M2,g1,g2,g3,g4,g5,g6⟩
   have cV:∀ i,i<ops.size→listed.getD i true=true:=by
    intro i hi
    cases oa:listed.getD i true with
    |true=>rfl
    |false=>
     have:i∈(List.range ops.size).filter (fun i=> !listed.getD i true):=by simp only[Ze,Y2,hi,oa,XC,and_self]
     have:=List.length_pos_of_mem this
     omega
   refine⟨?_,M2,fg,σ,g1,g2,fun t=> ?_,g3,g4,hK⟩
   ·unfold Region.ready
    rw[Yl]
    intro i hi
    simp[cV i (by simpa using hi)]
   ·rw[hF]
    by_cases ht:∃ j,∃ h:j<l.length,l[j].d=some t
    ·obtain⟨j,hj,cH⟩:=ht
     show R M2 (lk RG t) _
     rw[xn j hj t cH]
     exact g6 j hj t (cV j (by omega)) cH
    ·show R M2 (lk RG t) _
     rw[xo t (fun c hc e=>by
      obtain⟨j,hj,rfl⟩:=YR.1 hc
      exact ht ⟨j,hj,e⟩)]
     exact g5 t (fun c hc e=>by
      obtain⟨j,hj,rfl⟩:=YR.1 hc
      exact ht ⟨j,hj,e⟩)
  |succ fuel ih=>
   rintro listed a w bg xv ⟨M2,g1,g2,g3,g4,g5,g6⟩
   refine⟨fun hr=> ?_,fun i hi=> ?_⟩
   ·
    have cV:∀ i,i<ops.size→listed.getD i true=true:=by
     intro i
     induction i using Nat.strongRecOn with
     |_ i Jf=>
      intro hi
      cases oa:listed.getD i true with
      |true=>rfl
      |false=>
       have:i∈Region.ready .any ops listed:=by
        unfold Region.ready
        rw[Ze]
        refine⟨by simpa using hi,?_⟩
        simp only[oa,XC,Bool.true_and,ZN hi,ZJ,Zp]
        rw[ZB]
        intro e he
        cases kU:Region.binds .any e with
        |false=>rfl
        |true=>
         have aw:=(fb i (by omega) hi).1 e he kU
         have:=Jf e.on aw (by omega)
         have h2:listed.getD e.on false=true:=by
          rw[ZT]at this ⊢
          rw[ZN (by omega)]at this ⊢
          exact this
         simp[h2]
       rw[hr]at this
       cases this
    refine⟨M2,fg,σ,g1,g2,fun t=> ?_,g3,g4,hK⟩
    rw[hF]
    by_cases ht:∃ j,∃ h:j<l.length,l[j].d=some t
    ·obtain⟨j,hj,cH⟩:=ht
     show R M2 (lk RG t) _
     rw[xn j hj t cH]
     exact g6 j hj t (cV j (by omega)) cH
    ·show R M2 (lk RG t) _
     rw[xo t (fun c hc e=>by
      obtain⟨j,hj,rfl⟩:=YR.1 hc
      exact ht ⟨j,hj,e⟩)]
     exact g5 t (fun c hc e=>by
      obtain⟨j,hj,rfl⟩:=YR.1 hc
      exact ht ⟨j,hj,e⟩)
   ·unfold Region.ready at hi
    rw[Ze]at hi
    obtain⟨qx,kq⟩:=hi
    have fm:i<ops.size:=by simpa using qx
    simp only[Z8,YF,ZN fm,ZJ,Zp]at kq
    obtain⟨gJ,xy⟩:=kq
    have bW:i<l.length:=by omega
    have mR:qk P N ops ops[i]=some l[i]:=by have:=sF i (by simpa using fm) bW;simpa using this
    obtain⟨ko,aw⟩:=zi mR
    let ak:=Sx.ep l[i].reads RG
    have nQ:bQ M2 ak a:=by
     intro t
     by_cases ht:t∈l[i].reads
     ·rw[DP ht]
      rcases(fb i bW fm).2 t ht with hn|⟨j,hj,cH,il,e,he,kU,Ig⟩
      ·rw[xo t hn];exact g5 t hn
      ·rw[xn j hj t cH]
       refine g6 j hj t ?_ cH
       have:=ZB.1 xy e he
       simp only[kU,Bool.not_true,Bool.false_or,Ig]at this
       rw[ZT]at this ⊢
       rw[ZN (by omega)]at this ⊢
       exact this
     ·rw[Qo ht];exact .any _
    have hq:QV P cfg l[i] ak σ (xs[i]'(by omega)):=uc (fun t ht=>(DP ht).symm) (hQ i bW)
    unfold wpOp
    simp only[ZN fm]
    refine uy (K:=fun y σ'=>y=xs[i]'(by omega)∧σ'=σ) (E:=fun _ _=>False) mR hq g2 nQ ⟨?_,fun _ _ _ _ _ _ h=>h.elim⟩
    rintro M3 x σ' v w' hM bp hx ⟨rfl,rfl⟩
    refine ih _ _ _ (by simp[bg]) ?_ ⟨M3,g1.trans hM,bp,by rw[Act.size_put];exact g3,by rw[Act.zk];exact g4,fun t ht=> ?_,fun j hj t jP cH=> ?_⟩
    ·have:=filter_lt (fun i=> !listed.getD i true) (fun k=> !(listed.setIfInBounds i true).getD k true) (List.range ops.size) (fun k _ hk=>by
      simp only[YF]at hk ⊢
      rw[ZT,Zk]at hk
      split at hk
      ·split at hk<;>simp at hk
      ·rw[ZT];exact hk) ⟨i,qx,by simpa using gJ,by
       simp only[Bool.not_eq_false']
       rw[ZT,Zk]
       simp[bg,fm]⟩
     omega
    ·have aE:ops[i].dst≠some t:=by rw[← ko];exact ht _ (Zf bW)
     have:=(g5 t ht).mono hM
     have e:(a.put ops[i].dst v).tmps.getD t undef=a.tmps.getD t undef:=by
      cases hd:ops[i].dst with
      |none=>rfl
      |some u=>
       have vj:u≠t:=fun e=>aE (by rw[hd,e])
       simp[Act.put,YH vj]
     rw[e];exact this
    ·by_cases gd:j=i
     ·subst gd
      have hd:ops[j].dst=some t:=by rw[← ko];exact cH
      have I0:t<a.tmps.size:=by rw[g3];exact aw t cH
      have e:(a.put ops[j].dst v).tmps.getD t undef=v:=by simp[hd,Act.put,I0]
      rw[e];exact hx
     ·have Dg:listed.getD j true=true:=by
       rw[ZT,Zk,Z7 (fun e=>gd e.symm)]at jP
       rw[ZT];exact jP
      have:=(g6 j hj t Dg cH).mono hM
      have e:(a.put ops[i].dst v).tmps.getD t undef=a.tmps.getD t undef:=by
       cases hd:ops[i].dst with
       |none=>rfl
       |some u=>
        have vj:u≠t:=fun e=>by
         subst e
         have h1:l[i].d=some u:=ko.trans hd
         have oe:=X5.1 hnd
         rcases X4 i j with h|h|h
         ·exact oe i j (by simpa using bW) (by simpa using hj) h (by simp[h1,cH])
         ·exact gd h.symm
         ·exact oe j i (by simpa using hj) (by simpa using bW) h (by simp[h1,cH])
        simp[Act.put,YH vj]
      rw[e];exact this
 refine main ops.size _ a _ (by simp) ?_ ⟨M,Mem.le.refl _,hI.eI,hN,hD,fun t _=>hR t,fun j hj t jP _=> ?_⟩
 ·exact ZI (X8 _ _) (by simp)
 ·exfalso
  have uV:j<ops.size:=by omega
  simp[uV]at jP
 where
 DP {l:List Nat} {rg:ag} {t:Nat} (h:t∈l):lk (Sx.ep l rg) t=lk rg t:=by
  induction l with
  |nil=>cases h
  |cons u l ih=>
   simp only[Sx.ep,lk]
   cases hb:Nat.beq u t with
   |true=>rw[Z0 hb];rfl
   |false=>
    rcases ZK.1 h with rfl|h
    ·simp[YA]at hb
    ·exact ih h
 Qo {l:List Nat} {rg:ag} {t:Nat} (h:t∉l):lk (Sx.ep l rg) t= .any:=by
  induction l with
  |nil=>rfl
  |cons u l ih=>
   simp only[Sx.ep,lk]
   cases hb:Nat.beq u t with
   |true=>exact absurd (ZK.2 (.inl (Z0 hb).symm)) h
   |false=>exact ih (fun hm=>h (ZL _ hm))
theorem TY{l:List CI}{Q:Exit→ag→Store→Prop}(cfg:Nat→Nat)(h:oO P cfg l (fun ak=>Q .normal ak σ) rg σ):SW P N (.c8 l) Q rg σ:=
 wH cfg fun hc=>⟨S1 l rg rg (fun _=>rfl) h,S2 l rg hc h⟩
end
end Go.Sx
