/-
  The layer Sx, eleventh part: a region whose order is open and whose operations only compute.
-/
import Derived.Test.YtomhopcnkicknaaGreatDoorSxCtl
set_option linter.unusedVariables false
set_option linter.unusedSimpArgs false
set_option linter.unusedSectionVars false
namespace Go.Sx
open Go.RowKit
theorem q6{rg ay:ah}{x:Operand}(h:∀ t∈tmpsOf [x],lk rg t=lk ay t):ev rg x=ev ay x:=by
 cases x<;>simp_all [ev,tmpsOf]
theorem qx(x:Operand)(l:List Operand):tmpsOf (x::l)=tmpsOf [x]++tmpsOf l:=by cases x<;>rfl
theorem I0(l l':List Operand):tmpsOf (l++l')=tmpsOf l++tmpsOf l':=by
 induction l with
 |nil=>rfl
 |cons x l ih=>rw[Ze,qx,qx x l,ih,ZB]
theorem lz{rg ay:ah}:∀ (l:List Operand),(∀ t∈tmpsOf l,lk rg t=lk ay t)→bD rg l=bD ay l
 |[],_=>rfl
 |x::l,h=>by
  rw[qx]at h
  simp only[bD]
  rw[q6 fun t ht=>h t (ZK _ ht),lz l fun t ht=>h t (Zt _ ht)]
theorem Lt{rg ay:ah}:∀ (l:List (Nat×Nat×Operand)),(∀ t∈tmpsOf (l.map (·.2.2)),lk rg t=lk ay t)→pK rg l=pK ay l
 |[],_=>rfl
 |(o,n,x)::l,h=>by
  rw[ZC,qx]at h
  simp only[pK]
  rw[q6 fun t ht=>h t (ZK _ ht),Lt l fun t ht=>h t (Zt _ ht)]
theorem qB{P:Program}[Glob P]{cfg:Nat→Nat}{d:Option Nat}{rg ay:ah}{σ:Store}{K:AV→Store→Prop}{E:List PanicEntry→Store→Prop}{op:aB}(h:∀ t∈tmpsOf op.opers,lk rg t=lk ay t):
  ak P cfg d rg σ K E op=ak P cfg d ay σ K E op:=by
 have e1:∀ x,x∈op.opers→ev rg x=ev ay x:=fun x hx=>q6 fun t ht=>h t (by
  obtain⟨l1,l2,e⟩:=X5 hx
  rw[e,I0,qx]
  grind)
 cases op with
 |build z parts=>simp only[ak];rw[Lt parts h]
 |br t ag parts=>simp only[ak];rw[lz parts h]
 |call f args=>simp only[ak];rw[lz args h]
 |gz f args=>
  have hf:ev rg f=ev ay f:=e1 f (by simp[aB.opers])
  have ha:bD rg args=bD ay args:=lz args fun t ht=>h t (by simp only[aB.opers];rw[qx];grind)
  simp only[ak];grind
 |er fn first captured=>
  have hf:bD rg first=bD ay first:=lz first fun t ht=>h t (by simp only[aB.opers];rw[I0];grind)
  have ha:bD rg captured=bD ay captured:=lz captured fun t ht=>h t (by simp only[aB.opers];rw[I0];grind)
  simp only[ak];grind
 |slice ag x lo hi=>
  have hx:ev rg x=ev ay x:=e1 x (by simp[aB.opers])
  have hl:lo.map (ev rg)=lo.map (ev ay):=by cases lo with
   |none=>rfl
   |some y=>simp only[Zc];rw[e1 y (by simp[aB.opers])]
  have hh:hi.map (ev rg)=hi.map (ev ay):=by cases hi with
   |none=>rfl
   |some y=>simp only[Zc];rw[e1 y (by simp[aB.opers])]
  simp only[ak];grind
 |len s x=>cases s<;>(simp only[ak];rw[e1 x (by simp[aB.opers])])
 |alloc t z=>rfl
 |bS op ty ti args=>simp only[ak];rw[lz args h]
 |exts op ty ti args=>simp only[ak];rw[lz args h]
 |pick c x y=>simp only[ak];rw[e1 c (by simp[aB.opers]),e1 x (by simp[aB.opers]),e1 y (by simp[aB.opers])]
 |store n x y=>simp only[ak];rw[e1 x (by simp[aB.opers]),e1 y (by simp[aB.opers])]
 |bin op x y=>simp only[ak];rw[e1 x (by simp[aB.opers]),e1 y (by simp[aB.opers])]
 |ic n k x y=>simp only[ak];rw[e1 x (by simp[aB.opers]),e1 y (by simp[aB.opers])]
 |eqs n k x y=>simp only[ak];rw[e1 x (by simp[aB.opers]),e1 y (by simp[aB.opers])]
 |eY n x y=>simp only[ak];rw[e1 x (by simp[aB.opers]),e1 y (by simp[aB.opers])]
 |lJ n k x y=>simp only[ak];rw[e1 x (by simp[aB.opers]),e1 y (by simp[aB.opers])]
 |idxs x y=>simp only[ak];rw[e1 x (by simp[aB.opers]),e1 y (by simp[aB.opers])]
 |append t n k z x y=>simp only[ak];rw[e1 x (by simp[aB.opers]),e1 y (by simp[aB.opers])]
 |max2 x y=>simp only[ak];rw[e1 x (by simp[aB.opers]),e1 y (by simp[aB.opers])]
 |min2 x y=>simp only[ak];rw[e1 x (by simp[aB.opers]),e1 y (by simp[aB.opers])]
 |mv x=>simp only[ak];rw[e1 x (by simp[aB.opers])]
 |box t x=>simp only[ak];rw[e1 x (by simp[aB.opers])]
 |load g n x=>simp only[ak];rw[e1 x (by simp[aB.opers])]
 |oY x=>simp only[ak];rw[e1 x (by simp[aB.opers])]
 |un op x=>simp only[ak];rw[e1 x (by simp[aB.opers])]
 |lq k x=>simp only[ak];rw[e1 x (by simp[aB.opers])]
 |pG x=>simp only[ak];rw[e1 x (by simp[aB.opers])]
 |qh t x=>simp only[ak];rw[e1 x (by simp[aB.opers])]
 |panic x=>simp only[ak];rw[e1 x (by simp[aB.opers])]
 |kE n x=>simp only[ak];rw[e1 x (by simp[aB.opers])]
 |field g o n x=>simp only[ak];rw[e1 x (by simp[aB.opers])]
 |extract x i=>simp only[ak];rw[e1 x (by simp[aB.opers])]
def QV(P:Program)[Glob P](cfg:Nat→Nat)(c:CI)(rg:ah)(σ:Store)(x:AV):Prop:=dP P cfg c (fun y af=>y=x∧af=σ) (fun _ _=>False) rg σ
theorem sx{P:Program}[Glob P]{cfg:Nat→Nat}{c:CI}{rg ay:ah}{σ:Store}{x:AV}(h:∀ t∈c.reads,lk rg t=lk ay t)(hq:QV P cfg c rg σ x):QV P cfg c ay σ x:=by
 unfold QV dP at *
 have h1:∀ K E,ak P cfg c.d rg σ K E c.op=ak P cfg c.d ay σ K E c.op:=fun K E=>qB fun t ht=>h t (ZK _ ht)
 cases hg:c.g with
 |none=>grind
 |some p=>
  obtain⟨u,want⟩:=p
  have hu:lk rg u=lk ay u:=h u (Zt _ (by simp[hg]))
  grind
def xH(P:Program)[Glob P](f:FuncId)(as:List AV)(K:AV→Prop):Prop:=∃ r,Pure P f as r∧K r
theorem qcall_congr{P:Program}[Glob P]{f:FuncId}{as as':List AV}{K:AV→Prop}(h:as=as'):xH P f as K=xH P f as' K:=by rw[h]
def aK(P:Program)[Glob P](cfg:Nat→Nat)(d:Option Nat)(rg:ah)(σ:Store)(K:AV→Prop):aB→Prop
 | .box .. | .alloc .. | .store .. | .append .. | .exts .. | .panic .. =>False
 | .bS op ty ti args=>∃ r,sw P op ty ti args (bD rg args) r∧K r
 | .gz f args=>match ev rg f with
  | .v (.func (.func f) a c)=>jI P f=true∧xH P f (a.toList.map .v++bD rg args++c.toList.map .v) K
  | .cl f a c=>jI P f=true∧xH P f (a++bD rg args++c) K
  |_=>False
 | .call f args=>xH P f (bD rg args) K
 | .br _ ag parts=>match rowsOf ag (bD rg parts)with
  |some rows=>rows.length≤1000000∧match cfg (d.getD 0)with
   |0=>K (.sl true ag rows)
   |3=>K (.fl ag rows)
   |_=>False
  |none=>False
 | .len true x=>match ev rg x with
  | .v (.string s)=>K (.v (.int .i64 s.size))
  |_=>False
 | .len false x=>match ev rg x with
  | .v (.slice _ n _)=>K (.v (.int .i64 n))
  | .ms _ _ _ n _=>K (.v (.int .i64 n))
  | .sl _ _ rows=>K (.v (.int .i64 rows.length))
  | .own _ _ _ _ _ rows=>K (.v (.int .i64 rows.length))
  |_=>False
 |op=>ak P cfg d rg σ (fun x _=>K x) (fun _ _=>False) op
theorem Rw{op:BinOp}{a b:Value}{K:Value→Prop}(h:nS op a b K):∃ x,K x∧∀ K':Value→Prop,K' x→nS op a b K':=by
 unfold nS at h
 split at h
 ·cases op<;>simp only at h<;>simp only[nS]
  all_goals grind
 ·cases op<;>simp only at h<;>simp only[nS]
  case add=>grind
  case eql=>grind
  case neq=>grind
  case lss=>grind
  case leq=>grind
  case gtr=>grind
  grind
 grind
theorem Jg{P:Program}[Glob P]{cfg:Nat→Nat}{d:Option Nat}{rg:ah}{σ:Store}{K:AV→Prop}{op:aB}(h:aK P cfg d rg σ K op):
  ∃ x,K x∧∀ (K':AV→Store→Prop) (E':List PanicEntry→Store→Prop),K' x σ→ak P cfg d rg σ K' E' op:=by
 cases op with
 |box t x=>exact h.elim
 |alloc t z=>exact h.elim
 |store n x y=>exact h.elim
 |append t n k z x y=>exact h.elim
 |exts op ty ti args=>exact h.elim
 |panic x=>exact h.elim
 |bS op ty ti args=>obtain⟨r,hp,hk⟩:=h;exact⟨r,hk,fun K' E' h=>(hp.sp σ).mono fun x af ⟨e1,e2⟩=>by grind⟩
 |call f args=>obtain⟨r,hp,hk⟩:=h;exact⟨r,hk,fun K' E' h=>uX hp h⟩
 |gz f args=>
  simp only[aK]at h
  simp only[ak]
  split at h
  ·rename_i g b c he
   obtain⟨dJ,r,hp,hk⟩:=h
   (try rw[he])
   exact⟨r,hk,fun K' E' h=>⟨dJ,uX hp h⟩⟩
  ·rename_i g b c he
   obtain⟨dJ,r,hp,hk⟩:=h
   (try rw[he])
   exact⟨r,hk,fun K' E' h=>⟨dJ,uX hp h⟩⟩
  grind
 |br t ag parts=>
  simp only[aK]at h
  simp only[ak]
  split at h
  ·rename_i rows he
   (try rw[he])
   obtain⟨hn,h⟩:=h
   split at h
   ·rename_i e;exact⟨_,h,fun K' E' hk=>⟨hn,by simp only[e];exact hk⟩⟩
   ·rename_i e;exact⟨_,h,fun K' E' hk=>⟨hn,by simp only[e];exact hk⟩⟩
   ·exact h.elim
  ·exact h.elim
 |len s x=>
  cases s<;>simp only[aK]at h<;>simp only[ak]
  ·split at h
   ·rename_i b n c he;(try rw[he]);exact⟨_,h,fun K' E' hk=>hk⟩
   ·rename_i tg b o n c he;(try rw[he]);exact⟨_,h,fun K' E' hk=>hk⟩
   ·rename_i nn ez rows he;(try rw[he]);exact⟨_,h,fun K' E' hk _=>hk⟩
   ·rename_i ez tg b u c rows he;(try rw[he]);exact⟨_,h,fun K' E' hk _=>hk⟩
   ·exact h.elim
  ·split at h
   ·rename_i s he;(try rw[he]);exact⟨_,h,fun K' E' hk=>hk⟩
   ·exact h.elim
 |mv x=>exact⟨_,h,fun K' E' hk=>hk⟩
 |qh t x=>exact⟨_,h,fun K' E' hk=>hk⟩
 |pick c x y=>
  simp only[aK,ak]at h
  simp only[ak]
  split at h
  ·rename_i t he;(try rw[he]);exact⟨_,h,fun K' E' hk=>hk⟩
  ·exact h.elim
 |build z parts=>
  simp only[aK,ak]at h
  simp only[ak]
  split at h
  ·rename_i t he;(try rw[he]);exact⟨_,h,fun K' E' hk=>hk⟩
  ·exact h.elim
 |load g n x=>
  simp only[aK,ak]at h
  simp only[ak]
  split at h
  ·rename_i tg b o he
   (try rw[he])
   split at h
   ·rename_i b' l hb
    obtain⟨rfl,h⟩:=h
    (try simp only[hb])
    cases g with
    |true=>simp only[YV]at h ⊢;exact⟨_,h.2,fun K' E' hk=>⟨trivial,h.1,hk⟩⟩
    |false=>
     simp only[ZG,Za]at h ⊢
     split at h
     ·rename_i y hy;(try rw[hy]);exact⟨_,h,fun K' E' hk=>⟨trivial,hk⟩⟩
     ·exact h.elim
   ·exact h.elim
  ·rename_i l he
   (try rw[he])
   cases g with
   |true=>simp only[YV]at h ⊢;exact⟨_,h.2,fun K' E' hk=>⟨h.1,hk⟩⟩
   |false=>
    simp only[ZG,Za]at h ⊢
    split at h
    ·rename_i y hy;(try rw[hy]);exact⟨_,h,fun K' E' hk=>hk⟩
    ·exact h.elim
  ·rename_i gv he
   (try rw[he])
   split at h
   ·rename_i l hl
    (try simp only[hl])
    cases g with
    |true=>simp only[YV]at h ⊢;exact⟨_,h.2,fun K' E' hk=>⟨h.1,hk⟩⟩
    |false=>
     simp only[ZG,Za]at h ⊢
     split at h
     ·rename_i y hy;(try rw[hy]);exact⟨_,h,fun K' E' hk=>hk⟩
     ·exact h.elim
   ·exact h.elim
  ·exact h.elim
 |oY x=>
  simp only[aK,ak]at h
  simp only[ak]
  split at h<;>first|exact h.elim|(rename_i he;(try rw[he]);exact⟨_,h,fun K' E' hk=>hk⟩)
 |bin op x y=>
  simp only[aK,ak]at h
  simp only[ak]
  split at h
  ·rename_i u v hu hv
   (try rw[hu,hv])
   obtain⟨z,hz,oP⟩:=Rw h
   exact⟨.v z,hz,fun K' E' hk=>oP _ hk⟩
  ·exact h.elim
 |ic n k x y=>
  simp only[aK,ak]at h
  simp only[ak]
  split at h
  ·rename_i t he;(try rw[he]);exact⟨_,h,fun K' E' hk=>hk⟩
  ·exact h.elim
 |eqs n k x y=>
  simp only[aK,ak]at h
  simp only[ak]
  split at h
  ·rename_i xs ys h1 h2
   (try rw[h1,h2])
   split at h
   ·rename_i t he;(try simp only[he]);exact⟨_,h,fun K' E' hk=>hk⟩
   ·exact h.elim
  ·exact h.elim
 |un op x=>
  simp only[aK,ak]at h
  simp only[ak]
  split at h
  ·rename_i u hu
   (try rw[hu])
   split at h
   ·rename_i t he;(try simp only[he]);exact⟨_,h,fun K' E' hk=>hk⟩
   ·exact h.elim
  ·exact h.elim
 |lq k x=>
  simp only[aK,ak]at h
  simp only[ak]
  split at h
  ·rename_i k' n he;(try rw[he]);exact⟨_,h,fun K' E' hk=>hk⟩
  ·exact h.elim
 |pG x=>
  simp only[aK,ak]at h
  simp only[ak]
  split at h
  ·rename_i s he;(try rw[he]);exact⟨_,h,fun K' E' hk=>hk⟩
  ·exact h.elim
 |er fn first captured=>
  simp only[aK,ak]at h
  simp only[ak]
  split at h
  ·rename_i u v h1 h2;(try rw[h1,h2]);exact⟨_,h,fun K' E' hk=>hk⟩
  ·split at h
   ·exact⟨_,h,fun K' E' hk=>hk⟩
   ·exact h.elim
 |slice ag x lo hi=>
  simp only[aK,ak]at h
  simp only[ak]
  split at h
  ·rename_i cm eu h1 h2
   (try rw[h1,h2])
   split at h
   ·rename_i nn e rows he;(try simp only[he]);exact⟨_,h.2.2.2.2,fun K' E' hk=>⟨h.1,h.2.1,h.2.2.1,h.2.2.2.1,hk⟩⟩
   ·rename_i e tg b u c rows he;(try simp only[he]);exact⟨_,h.2.2.2.2,fun K' E' hk=>⟨h.1,h.2.1,h.2.2.1,h.2.2.2.1,hk⟩⟩
   ·rename_i he;(try simp only[he]);exact⟨_,h.2.2,fun K' E' hk=>⟨h.1,h.2.1,hk⟩⟩
   ·exact h.elim
  ·exact h.elim
 |kE off x=>
  simp only[aK,ak]at h
  simp only[ak]
  split at h<;>first|exact h.elim|(rename_i he;(try rw[he]);exact⟨_,h,fun K' E' hk=>hk⟩)
 |field g o n x=>
  simp only[aK,ak]at h
  simp only[ak]
  split at h
  ·rename_i l hl
   (try rw[hl])
   obtain⟨ax,h⟩:=h
   cases g with
   |true=>simp only[YV]at h ⊢;exact⟨_,h,fun K' E' hk=>⟨ax,hk⟩⟩
   |false=>
    simp only[ZG,Za]at h ⊢
    split at h
    ·rename_i y hy;(try rw[hy]);exact⟨_,h,fun K' E' hk=>⟨ax,hk⟩⟩
    ·exact h.elim
  ·exact h.elim
 |eY ag x i=>
  simp only[aK,ak]at h
  simp only[ak]
  split at h
  ·rename_i k j hi
   (try rw[hi])
   split at h
   ·rename_i nn e rows he;(try simp only[he]);exact⟨_,h.2.2.2,fun K' E' hk=>⟨h.1,h.2.1,h.2.2.1,hk⟩⟩
   ·rename_i e tg b u c rows he;(try simp only[he]);exact⟨_,h.2.2.2,fun K' E' hk=>⟨h.1,h.2.1,h.2.2.1,hk⟩⟩
   ·rename_i tg b o n c he;(try simp only[he]);exact⟨_,h.2.2,fun K' E' hk=>⟨h.1,h.2.1,hk⟩⟩
   ·exact h.elim
  ·exact h.elim
 |lJ n ag x i=>
  simp only[aK,ak]at h
  simp only[ak]
  split at h
  ·rename_i k j hi
   (try rw[hi])
   split at h
   ·rename_i tg b o he;(try simp only[he]);exact⟨_,h.2.2,fun K' E' hk=>⟨h.1,h.2.1,hk⟩⟩
   ·rename_i l he;(try simp only[he]);exact⟨_,h.2.2,fun K' E' hk=>⟨h.1,h.2.1,hk⟩⟩
   ·rename_i g o he;(try simp only[he]);obtain⟨l,ha,h0,h1,h2,h3⟩:=h;exact⟨_,h3,fun K' E' hk=>⟨l,ha,h0,h1,h2,hk⟩⟩
   ·exact h.elim
  ·exact h.elim
 |idxs x i=>
  simp only[aK,ak]at h
  simp only[ak]
  split at h
  ·rename_i k j s h1 h2
   (try rw[h1,h2])
   obtain⟨ax,h⟩:=h
   exact⟨_,h,fun K' E' hk=>⟨ax,hk⟩⟩
  ·exact h.elim
 |extract x i=>
  simp only[aK,ak]at h
  simp only[ak]
  split at h
  ·rename_i xs he
   (try rw[he])
   split at h
   ·rename_i y hy;(try simp only[hy]);exact⟨_,h,fun K' E' hk=>hk⟩
   ·exact h.elim
  ·rename_i xs he
   (try rw[he])
   split at h
   ·rename_i y hy;(try simp only[hy]);exact⟨_,h,fun K' E' hk=>hk⟩
   ·exact h.elim
  ·exact h.elim
 |max2 x y=>
  simp only[aK,ak]at h
  simp only[ak]
  split at h
  ·rename_i u v h1 h2
   (try rw[h1,h2])
   split at h
   ·rename_i t he;(try simp only[he]);exact⟨_,h,fun K' E' hk=>hk⟩
   ·exact h.elim
  ·exact h.elim
 |min2 x y=>
  simp only[aK,ak]at h
  simp only[ak]
  split at h
  ·rename_i u v h1 h2
   (try rw[h1,h2])
   split at h
   ·rename_i t he;(try simp only[he]);exact⟨_,h,fun K' E' hk=>hk⟩
   ·exact h.elim
  ·exact h.elim
def se(P:Program)[Glob P](cfg:Nat→Nat)(c:CI)(K:AV→Prop)(rg:ah)(σ:Store):Prop:=
 match c.g with
 |none=>aK P cfg c.d rg σ K c.op
 |some (t,want)=>match lk rg t with
  | .v (.bool b)=>(b=want→aK P cfg c.d rg σ K c.op)∧(b= !want→K (.v undef))
  | .v (.tuple _)=>K (.v undef)
  |_=>False
theorem Ry{P:Program}[Glob P]{cfg:Nat→Nat}{c:CI}{rg:ah}{σ:Store}{K:AV→Prop}(h:se P cfg c K rg σ):∃ x,K x∧QV P cfg c rg σ x:=by
 unfold se at h
 unfold QV dP
 cases hg:c.g with
 |none=>rw[hg]at h;obtain⟨x,hx,hv⟩:=Jg h;grind
 |some p=>
  obtain⟨u,want⟩:=p
  rw[hg]at h
  simp only at h ⊢
  split at h
  ·rename_i b he
   by_cases hb:b=want
   ·obtain⟨x,hx,hv⟩:=Jg (h.1 hb)
    grind
   ·have iS:b= !want:=by cases b<;>cases want<;>simp_all
    grind
  ·grind
  grind
def nT(P:Program)[Glob P](cfg:Nat→Nat):List CI→(K:ah→Prop)→ah→Store→Prop
 |[],K,rg,_=>K rg
 |c::l,K,rg,σ=>match c.g with
  |none=>aK P cfg c.d rg σ (fun x=>nT P cfg l K (cr c.d x rg) σ) c.op
  |some (t,want)=>match lk rg t with
   | .v (.bool b)=>Gd b want (aK P cfg c.d ((t,.v (.bool want))::rg) σ (fun x=>nT P cfg l K (cr c.d x ((t,.v (.bool want))::rg)) σ) c.op)
     (nT P cfg l K (cr c.d (.v undef) ((t,.v (.bool !want))::rg)) σ)
   | .v (.tuple _)=>nT P cfg l K (cr c.d (.v undef) rg) σ
   |_=>False
theorem RH{P:Program}[Glob P]{cfg:Nat→Nat}{c:CI}{l:List CI}{K:ah→Prop}{rg:ah}{σ:Store}(h:nT P cfg (c::l) K rg σ):
  ∃ ay,(∀ i,lk ay i=lk rg i)∧se P cfg c (fun x=>nT P cfg l K (cr c.d x ay) σ) ay σ:=by
 simp only[nT]at h
 split at h
 ·exact⟨rg,fun _=>rfl,by unfold se;grind⟩
 ·rename_i t want hg
  split at h
  ·rename_i b hb
   by_cases fK:b=want
   ·subst fK
    have e:lk ((t,AV.v (.bool b))::rg) t= .v (.bool b):=by simp[lk,X8]
    refine⟨_,CR hb,?_⟩
    unfold se
    rw[hg]
    simp only[e]
    exact⟨fun _=>h.l rfl,fun h'=>by grind⟩
   ·have iS:b= !want:=by cases b<;>cases want<;>simp_all
    subst iS
    have e:lk ((t,AV.v (.bool !want))::rg) t= .v (.bool !want):=by simp[lk,X8]
    refine⟨_,CR hb,?_⟩
    unfold se
    rw[hg]
    simp only[e]
    exact⟨fun h'=>absurd h' fK,fun _=>h.r rfl⟩
  ·exact⟨rg,fun _=>rfl,by unfold se;grind⟩
  grind
theorem zM{rg ay:ah}(h:∀ i,lk ay i=lk rg i)(d:Option Nat)(x:AV)(i:Nat):lk (cr d x ay) i=lk (cr d x rg) i:=by
 cases d with
 |none=>exact h i
 |some d=>simp only[cr,lk];rw[h]
theorem OG(i j:Nat)(x:AV)(r:ah):lk ((i,x)::r) j=if i=j then x else lk r j:=by
 simp only[lk]
 simp_all
def dv:List CI→List AV→ah→ah
 |c::l,x::xs,rg=>dv l xs (cr c.d x rg)
 |_,_,rg=>rg
theorem RE{P:Program}[Glob P]{cfg:Nat→Nat}{σ:Store}{K:ah→Prop}:∀ (l:List CI) (rg fD:ah),(∀ i,lk rg i=lk fD i)→nT P cfg l K rg σ→
  ∃ xs:List AV,xs.length=l.length∧(∃ fP,K fP∧∀ i,lk fP i=lk (dv l xs fD) i)∧∀ i (h:i<l.length) (h':i<xs.length),QV P cfg l[i] (dv (l.take i) (xs.take i) fD) σ xs[i]
 |[],rg,fD,he,h=>⟨[],rfl,⟨rg,h,he⟩,fun i h=>absurd h (by simp)⟩
 |c::l,rg,fD,he,h=>by
  obtain⟨ay,B4,hv⟩:=RH h
  obtain⟨x,hx,hq⟩:=Ry hv
  have MU:∀ i,lk ay i=lk fD i:=fun i=>(B4 i).trans (he i)
  obtain⟨xs,h1,h2,h3⟩:=RE l _ (cr c.d x fD) (zM MU c.d x) hx
  refine⟨x::xs,by simp[h1],h2,fun i hi dw=> ?_⟩
  cases i with
  |zero=>exact sx (fun t _=>MU t) hq
  |succ i=>simpa[dv]using h3 i (by grind) (by grind)
theorem aMM{P:Program}[Glob P]{cfg:Nat→Nat}{d:Option Nat}{rg:ah}{σ:Store}{K:AV→Prop}{op:aB}(h4:op.cls=4)(h:aK P cfg d rg σ K op):False:=by
 cases op<;>simp only[aB.cls,reduceCtorEq,Nat.reduceEqDiff,Nat.zero_ne_add_one]at h4<;>exact h
theorem RF{P:Program}[Glob P]{cfg:Nat→Nat}{σ:Store}{K:ah→Prop}:∀ (l:List CI) (rg:ah),(∀ c∈l,c.op.cls≤1∨(c.op.cls=4∧c.g=none))→nT P cfg l K rg σ→∀ c∈l,c.op.cls≤1
 |[],_,_,_=>fun _ h=>by cases h
 |c::l,rg,hc,h=>by
  obtain⟨ay,_,hv⟩:=RH h
  obtain⟨x,hx,_⟩:=Ry hv
  intro c' gi
  rcases ZQ.1 gi with rfl|gi
  ·rcases hc c' (by simp)with h1|⟨h1,h2⟩
   ·exact h1
   ·exfalso
    unfold se at hv
    simp only[h2]at hv
    exact aMM h1 hv
  ·exact RF l _ (fun c h=>hc c (by simp[h])) hx c' gi
theorem tV:∀ (l:List CI) (xs:List AV) (rg:ah) (t:Nat),(∀ c∈l,c.d≠some t)→lk (dv l xs rg) t=lk rg t
 |[],xs,rg,t,_=>rfl
 |c::l,[],rg,t,_=>rfl
 |c::l,x::xs,rg,t,h=>by
  simp only[dv]
  rw[tV l xs _ t (fun c' hc=>h c' (ZL _ hc))]
  have hc:=h c (by simp)
  cases hd:c.d with
  |none=>rfl
  |some d=>
   have:Nat.beq d t=false:=by rw[← Yi,Nat.beq_eq];grind
   simp[cr,lk,this]
theorem zN:∀ (l:List CI) (xs:List AV) (rg:ah),(l.map (·.d)).Nodup→xs.length=l.length→∀ j (h:j<l.length) (h':j<xs.length) t,l[j].d=some t→lk (dv l xs rg) t=xs[j]
 |[],xs,rg,_,_,j,h,_,_,_=>absurd h (by simp)
 |c::l,[],rg,_,hl,_,_,_,_,_=>by grind
 |c::l,x::xs,rg,hn,hl,j,h,h',t,hd=>by
  simp only[ZC,YX]at hn
  simp only[dv]
  cases j with
  |zero=>
   simp at hd ⊢
   rw[tV l xs _ t (fun c' hc e=>hn.1 (by grind))]
   simp[cr,hd,lk,X8]
  |succ j=>exact zN l xs _ hn.2 (by grind) j (by grind) (by grind) t (by grind)
theorem filter_lt{α:Type}(p q:α→Bool):∀ (l:List α),(∀ x∈l,q x=true→p x=true)→(∃ x∈l,p x=true∧q x=false)→(l.filter q).length+1≤(l.filter p).length
 |[],_,⟨x,hx,_⟩=>by grind
 |y::l,h,⟨x,hx,hp,hq⟩=>by
  have hle:∀ (l:List α),(∀ x∈l,q x=true→p x=true)→(l.filter q).length≤(l.filter p).length:=by
   intro l
   induction l with
   |nil=>simp
   |cons z l ih=>
    grind
  rcases ZQ.1 hx with rfl|hx
  ·grind
  ·have ih:=filter_lt p q l (fun x hx=>h x (by simp[hx])) ⟨x,hx,hp,hq⟩
   grind
section
variable {P:Program}[Glob P]{M:Mem}{w0:Base}{w:World}{σ:Store}{rg:ah}{a:Act}{cfg:Nat→Nat}{N:Nat}
theorem Bk{ops:Array Oper}:∀ (os:List Oper) (l:List CI),gL P N ops os=some l→l.length=os.length∧∀ i (h:i<os.length) (h':i<l.length),pF P N ops os[i]=some l[i]
 |[],l,h=>by simp only[gL,ZN]at h;grind
 |o::os,l,h=>by
  simp only[gL]at h
  split at h
  ·obtain⟨l',h1,rfl⟩:=ZO.1 h
   obtain⟨h2,h3⟩:=Bk os l' h1
   grind
  grind
theorem aaY{ops:Array Oper}{l:List CI}(h:pJ ops l=true):∃ k,∃ hk:k<l.length,uc l 0=some k∧l[k].op.cls=4:=by
 unfold pJ at h
 split at h
 ·cases h
 ·rename_i k e
  obtain⟨i,h1,h2,h3,_⟩:=Ia _ _ e
  obtain rfl:k=i:=by omega
  exact⟨k,h1,e,h3⟩
theorem Lk{ops:Array Oper}{l:List CI}(h:pI ops l=true∨pJ ops l=true):∀ c∈l,c.op.cls≤1∨(c.op.cls=4∧c.g=none):=fun c hc=>by
 have key:c.d.isSome=true∧(c.op.cls.ble 1=true∨(c.op.cls.beq 4=true∧c.g.isNone=true)):=by
  rcases h with h|h
  ·unfold pI at h
   simp_all
  ·unfold pJ at h
   split at h
   ·cases h
   ·simp only[ZP,Zx,YU]at h
    exact h.1.2 c hc
 simp_all
def AP(P:Program)[Glob P](cfg:Nat→Nat)(K:ah→Prop)(l:List CI)(rg:ah)(σ:Store):Prop:=
 ∃ xs:List AV,xs.length=l.length∧(∃ fP,K fP∧∀ i,lk fP i=lk (dv l xs rg) i)∧∀ i (h:i<l.length) (h':i<xs.length),QV P cfg l[i] (dv (l.take i) (xs.take i) rg) σ xs[i]
theorem uO{l:List CI}{Q:Exit→ah→Store→Prop}(cfg:Nat→Nat)(h:(∀ c∈l,c.op.cls≤1∨(c.op.cls=4∧c.g=none))→AP P cfg (fun ay=>Q .normal ay σ) l rg σ∧∀ c∈l,c.op.cls≤1):SW P N (.cG l) Q rg σ:=by
 intro c hc M w0 a w hI hR hN hD
 obtain⟨id,ops,rfl,hl,cy,tq⟩:=kC hc
 obtain⟨hlen,yF⟩:=Bk ops.toList l hl
 have rz:l.length=ops.size:=by simpa using hlen
 obtain⟨⟨xs,iz,⟨fP,hK,hF⟩,hQV⟩,c8⟩:=h (Lk cy)
 replace cy:pI ops l=true:=by
  rcases cy with cy|cy
  ·exact cy
  ·exfalso
   obtain⟨k,hk,_,h4⟩:=aaY cy
   have:=c8 _ (Zf hk)
   omega
 unfold pI at cy
 simp only[ZP,Zn]at cy
 obtain⟨⟨hnd,_⟩,oC⟩:=cy
 rw[Zx]at oC
 have eX:∀ i (hi:i<l.length) (ho:i<ops.size),(∀ e∈ops[i].after,Region.binds .any e=true→e.on<i)∧∀ t∈l[i].reads,(∀ c∈l,c.d≠some t)∨∃ j,∃ hj:j<l.length,l[j].d=some t∧j<i∧∃ e∈ops[i].after,Region.binds .any e=true∧e.on=j:=by
  intro i hi ho
  have hm:((l[i],ops[i]),i)∈(l.zip ops.toList).zipIdx:=by
   rw[List.mem_zipIdx_iff_getElem?]
   simp[List.getElem?_zip_eq_some,hi,ho]
  have:=oC _ hm
  simp only[ZP]at this
  obtain⟨h1,h2⟩:=this
  have hb:∀ e∈ops[i].after,Region.binds .any e=true→e.on<i:=by
   intro e he kK
   have:=ZD.1 h1 e he
   simpa[kK]using this
  refine⟨hb,fun t ht=> ?_⟩
  have h3:=Zx.1 h2 t ht
  split at h3
  ·rename_i j hj
   right
   rw[X0]at h3
   obtain⟨m,js,h4⟩:=h3
   simp only[ZP,beq_iff_eq]at h4
   have mz:j<l.length∧(l.map (·.d))[j]? =some (some t):=by
    obtain⟨i',h5,h6⟩:=Ic _ _ hj
    obtain rfl:j=i':=by omega
    exact⟨by have:=(ZE.1 h6).1;simpa using this,h6⟩
   obtain⟨pO,kM⟩:=mz
   refine⟨j,pO,by simpa[pO]using kM,?_,ops[i].after[m],Yo js,h4.1,h4.2⟩
   rw[← h4.2]
   exact hb _ (Yo js) h4.1
  ·rename_i hj
   left
   intro c hc e
   exact Ib _ _ hj (by rw[← e];exact Yz hc)
 let RG:=dv l xs rg
 have vy:∀ j (h:j<l.length) t,l[j].d=some t→lk RG t=xs[j]'(by omega):=fun j h t ht=>zN l xs rg hnd iz j h (by omega) t ht
 have vz:∀ t,(∀ c∈l,c.d≠some t)→lk RG t=lk rg t:=fun t ht=>tV l xs rg t ht
 have hQ:∀ i (hi:i<l.length),QV P cfg l[i] RG σ (xs[i]'(by omega)):=by
  intro i hi
  refine sx (fun t ht=> ?_) (hQV i hi (by omega))
  rcases(eX i hi (by omega)).2 t ht with hn|⟨j,hj,cI,jP,_⟩
  ·rw[vz t hn]
   exact tV _ _ _ _ (fun c hc=>hn c (YZ hc))
  ·rw[vy j hj t cI]
   have e1:(l.take i)[j]'(by simp;omega)=l[j]:=by simp
   have e2:(xs.take i)[j]'(by simp;omega)=xs[j]'(by omega):=by simp
   rw[← e2]
   refine zN (l.take i) (xs.take i) rg ?_ (by simp[iz]) j (by simp;omega) (by simp;omega) t (by rw[e1];exact cI)
   rw[List.map_take]
   exact hnd.sublist (List.take_sublist _ _)
 refine ES tq ?_
 have main:∀ (fuel:Nat) (listed:Array Bool) (a:Act) (w:World),listed.size=ops.size→((List.range ops.size).filter (fun i=> !listed.getD i true)).length≤fuel→
   (∃ M2,M.le M2∧Inv P M2 w0 σ w∧a.tmps.size=N∧a.defers=Glob.df P∧(∀ t,(∀ c∈l,c.d≠some t)→R M2 (lk rg t) (a.tmps.getD t undef))∧∀ j (h:j<l.length) t,listed.getD j true=true→l[j].d=some t→R M2 (xs[j]'(by omega)) (a.tmps.getD t undef))→
   wpAny P .any ops (jJ P M w0 N Q) fuel listed a w:=by
  intro fuel
  induction fuel with
  |zero=>
   rintro listed a w bC vK ⟨M2,g1,g2,g3,g4,g5,g6⟩
   have cH:∀ i,i<ops.size→listed.getD i true=true:=by
    intro i hi
    cases nk:listed.getD i true with
    |true=>rfl
    |false=>
     have:i∈(List.range ops.size).filter (fun i=> !listed.getD i true):=by simp only[Zh,Y6,hi,nk,Xy,and_self]
     have:=List.length_pos_of_mem this
     omega
   refine⟨?_,M2,fP,σ,g1,g2,fun t=> ?_,g3,g4,hK⟩
   ·unfold Region.ready
    rw[Xz]
    intro i hi
    simp[cH i (by simpa using hi)]
   ·rw[hF]
    by_cases ht:∃ j,∃ h:j<l.length,l[j].d=some t
    ·obtain⟨j,hj,cI⟩:=ht
     show R M2 (lk RG t) _
     rw[vy j hj t cI]
     exact g6 j hj t (cH j (by omega)) cI
    ·show R M2 (lk RG t) _
     rw[vz t (fun c hc e=>by
      obtain⟨j,hj,rfl⟩:=Y3.1 hc
      exact ht ⟨j,hj,e⟩)]
     exact g5 t (fun c hc e=>by
      obtain⟨j,hj,rfl⟩:=Y3.1 hc
      exact ht ⟨j,hj,e⟩)
  |succ fuel ih=>
   rintro listed a w bC vK ⟨M2,g1,g2,g3,g4,g5,g6⟩
   refine⟨fun hr=> ?_,fun i hi=> ?_⟩
   ·
    have cH:∀ i,i<ops.size→listed.getD i true=true:=by
     intro i
     induction i using Nat.strongRecOn with
     |_ i G6=>
      intro hi
      cases nk:listed.getD i true with
      |true=>rfl
      |false=>
       have:i∈Region.ready .any ops listed:=by
        unfold Region.ready
        rw[Zh]
        refine⟨by simpa using hi,?_⟩
        simp only[nk,Xy,Bool.true_and,ZH hi,Zc,Zu]
        rw[ZD]
        intro e he
        cases kK:Region.binds .any e with
        |false=>rfl
        |true=>
         have ax:=(eX i (by omega) hi).1 e he kK
         have:=G6 e.on ax (by omega)
         have h2:listed.getD e.on false=true:=by
          rw[ZT]at this ⊢
          rw[ZH (by omega)]at this ⊢
          exact this
         simp[h2]
       rw[hr]at this
       cases this
    refine⟨M2,fP,σ,g1,g2,fun t=> ?_,g3,g4,hK⟩
    rw[hF]
    by_cases ht:∃ j,∃ h:j<l.length,l[j].d=some t
    ·obtain⟨j,hj,cI⟩:=ht
     show R M2 (lk RG t) _
     rw[vy j hj t cI]
     exact g6 j hj t (cH j (by omega)) cI
    ·show R M2 (lk RG t) _
     rw[vz t (fun c hc e=>by
      obtain⟨j,hj,rfl⟩:=Y3.1 hc
      exact ht ⟨j,hj,e⟩)]
     exact g5 t (fun c hc e=>by
      obtain⟨j,hj,rfl⟩:=Y3.1 hc
      exact ht ⟨j,hj,e⟩)
   ·unfold Region.ready at hi
    rw[Zh]at hi
    obtain⟨ni,iV⟩:=hi
    have fL:i<ops.size:=by simpa using ni
    simp only[ZP,YP,ZH fL,Zc,Zu]at iV
    obtain⟨pR,vL⟩:=iV
    have bp:i<l.length:=by omega
    have oB:pF P N ops ops[i]=some l[i]:=by have:=yF i (by simpa using fL) bp;simpa using this
    obtain⟨jO,ax⟩:=xW oB
    let ay:=Sx.gB l[i].reads RG
    have kJ:bW M2 ay a:=by
     intro t
     by_cases ht:t∈l[i].reads
     ·rw[CQ ht]
      rcases(eX i bp fL).2 t ht with hn|⟨j,hj,cI,jP,e,he,kK,F6⟩
      ·rw[vz t hn];exact g5 t hn
      ·rw[vy j hj t cI]
       refine g6 j hj t ?_ cI
       have:=ZD.1 vL e he
       simp only[kK,Bool.not_true,Bool.false_or,F6]at this
       rw[ZT]at this ⊢
       rw[ZH (by omega)]at this ⊢
       exact this
     ·rw[OH ht];exact .any _
    have hq:QV P cfg l[i] ay σ (xs[i]'(by omega)):=sx (fun t ht=>(CQ ht).symm) (hQ i bp)
    unfold wpOp
    simp only[ZH fL]
    refine s4 (K:=fun y af=>y=xs[i]'(by omega)∧af=σ) (E:=fun _ _=>False) oB hq g2 kJ ⟨?_,fun _ _ _ _ _ _ h=>h.elim⟩
    rintro M3 x af v w' hM aS hx ⟨rfl,rfl⟩
    refine ih _ _ _ (by simp[bC]) ?_ ⟨M3,g1.trans hM,aS,by rw[Act.size_put];exact g3,by rw[Act.x2];exact g4,fun t ht=> ?_,fun j hj t jr cI=> ?_⟩
    ·have:=filter_lt (fun i=> !listed.getD i true) (fun k=> !(listed.setIfInBounds i true).getD k true) (List.range ops.size) (fun k _ hk=>by
      simp only[YP]at hk ⊢
      rw[ZT,Zp]at hk
      split at hk
      ·split at hk<;>simp at hk
      ·rw[ZT];exact hk) ⟨i,ni,by simpa using pR,by
       simp only[Bool.not_eq_false']
       rw[ZT,Zp]
       simp[bC,fL]⟩
     omega
    ·have bB:ops[i].dst≠some t:=by rw[← jO];exact ht _ (Zf bp)
     have:=(g5 t ht).mono hM
     have e:(a.put ops[i].dst v).tmps.getD t undef=a.tmps.getD t undef:=by
      cases hd:ops[i].dst with
      |none=>rfl
      |some u=>
       have tK:u≠t:=fun e=>bB (by rw[hd,e])
       simp[Act.put,YW tK]
     rw[e];exact this
    ·by_cases fV:j=i
     ·subst fV
      have hd:ops[j].dst=some t:=by rw[← jO];exact cI
      have GR:t<a.tmps.size:=by rw[g3];exact ax t cI
      have e:(a.put ops[j].dst v).tmps.getD t undef=v:=by simp[hd,Act.put,GR]
      rw[e];exact hx
     ·have Cd:listed.getD j true=true:=by
       rw[ZT,Zp,Z6 (fun e=>fV e.symm)]at jr
       rw[ZT];exact jr
      have:=(g6 j hj t Cd cI).mono hM
      have e:(a.put ops[i].dst v).tmps.getD t undef=a.tmps.getD t undef:=by
       cases hd:ops[i].dst with
       |none=>rfl
       |some u=>
        have tK:u≠t:=fun e=>by
         subst e
         have h1:l[i].d=some u:=jO.trans hd
         have ny:=YL.1 hnd
         rcases Yb i j with h|h|h
         ·exact ny i j (by simpa using bp) (by simpa using hj) h (by simp[h1,cI])
         ·exact fV h.symm
         ·exact ny j i (by simpa using hj) (by simpa using bp) h (by simp[h1,cI])
        simp[Act.put,YW tK]
      rw[e];exact this
 refine main ops.size _ a _ (by simp) ?_ ⟨M,Mem.le.refl _,hI.ly,hN,hD,fun t _=>hR t,fun j hj t jr _=> ?_⟩
 ·exact ZJ (Yw _ _) (by simp)
 ·exfalso
  have tB:j<ops.size:=by omega
  simp[tB]at jr
 where
 CQ {l:List Nat} {rg:ah} {t:Nat} (h:t∈l):lk (Sx.gB l rg) t=lk rg t:=by
  induction l with
  |nil=>cases h
  |cons u l ih=>
   simp only[Sx.gB,lk]
   cases hb:Nat.beq u t with
   |true=>rw[Zm hb];rfl
   |false=>
    rcases ZQ.1 h with rfl|h
    ·simp[X8]at hb
    ·exact ih h
 OH {l:List Nat} {rg:ah} {t:Nat} (h:t∉l):lk (Sx.gB l rg) t= .any:=by
  induction l with
  |nil=>rfl
  |cons u l ih=>
   simp only[Sx.gB,lk]
   cases hb:Nat.beq u t with
   |true=>exact absurd (ZQ.2 (.inl (Zm hb).symm)) h
   |false=>exact ih (fun hm=>h (ZL _ hm))
theorem SM{l:List CI}{Q:Exit→ah→Store→Prop}(cfg:Nat→Nat)(h:nT P cfg l (fun ay=>Q .normal ay σ) rg σ):SW P N (.cG l) Q rg σ:=
 uO cfg fun hc=>⟨RE l rg rg (fun _=>rfl) h,RF l rg hc h⟩
end
end Go.Sx
