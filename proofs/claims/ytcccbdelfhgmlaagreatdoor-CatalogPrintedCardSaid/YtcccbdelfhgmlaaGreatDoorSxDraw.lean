/-
  The layer Sx, eleventh part: a region whose order is open and whose operations only compute.
-/
import Derived.Test.YtcccbdelfhgmlaaGreatDoorSxCtl
set_option linter.unusedVariables false
set_option linter.unusedSimpArgs false
set_option linter.unusedSectionVars false
namespace Go.Sx
open Go.RowKit
theorem sQ{rg ao:ag}{x:Operand}(h:∀ t∈tmpsOf [x],lk rg t=lk ao t):ev rg x=ev ao x:=by
 cases x<;>simp_all [ev,tmpsOf]
theorem rP(x:Operand)(l:List Operand):tmpsOf (x::l)=tmpsOf [x]++tmpsOf l:=by cases x<;>rfl
theorem Ld(l l':List Operand):tmpsOf (l++l')=tmpsOf l++tmpsOf l':=by
 induction l with
 |nil=>rfl
 |cons x l ih=>rw[ZC,rP,rP x l,ih,Zz]
theorem j3{rg ao:ag}:∀ (l:List Operand),(∀ t∈tmpsOf l,lk rg t=lk ao t)→bo rg l=bo ao l
 |[],_=>rfl
 |x::l,h=>by
  rw[rP]at h
  simp only[bo]
  rw[sQ fun t ht=>h t (ZN _ ht),j3 l fun t ht=>h t (Zt _ ht)]
theorem OY{rg ao:ag}:∀ (l:List (Nat×Nat×Operand)),(∀ t∈tmpsOf (l.map (·.2.2)),lk rg t=lk ao t)→qQ rg l=qQ ao l
 |[],_=>rfl
 |(o,n,x)::l,h=>by
  rw[Zu,rP]at h
  simp only[qQ]
  rw[sQ fun t ht=>h t (ZN _ ht),OY l fun t ht=>h t (Zt _ ht)]
theorem rV{P:Program}[Glob P]{cfg:Nat→Nat}{d:Option Nat}{rg ao:ag}{σ:Store}{K:AV→Store→Prop}{E:List PanicEntry→Store→Prop}{op:aw}(h:∀ t∈tmpsOf op.opers,lk rg t=lk ao t):
  aj P cfg d rg σ K E op=aj P cfg d ao σ K E op:=by
 have e1:∀ x,x∈op.opers→ev rg x=ev ao x:=fun x hx=>sQ fun t ht=>h t (by
  obtain⟨l1,l2,e⟩:=List.append_of_mem hx
  rw[e,Ld,rP]
  grind)
 cases op with
 |build z parts=>simp only[aj];rw[OY parts h]
 |bM t af parts=>simp only[aj];rw[j3 parts h]
 |call f args=>simp only[aj];rw[j3 args h]
 |dY f args=>
  have hf:ev rg f=ev ao f:=e1 f (by simp[aw.opers])
  have ha:bo rg args=bo ao args:=j3 args fun t ht=>h t (by simp only[aw.opers];rw[rP];grind)
  simp only[aj];grind
 |gG fn first captured=>
  have hf:bo rg first=bo ao first:=j3 first fun t ht=>h t (by simp only[aw.opers];rw[Ld];grind)
  have ha:bo rg captured=bo ao captured:=j3 captured fun t ht=>h t (by simp only[aw.opers];rw[Ld];grind)
  simp only[aj];grind
 |slice af x lo hi=>
  have hx:ev rg x=ev ao x:=e1 x (by simp[aw.opers])
  have hl:lo.map (ev rg)=lo.map (ev ao):=by cases lo with
   |none=>rfl
   |some y=>simp only[Zh];rw[e1 y (by simp[aw.opers])]
  have hh:hi.map (ev rg)=hi.map (ev ao):=by cases hi with
   |none=>rfl
   |some y=>simp only[Zh];rw[e1 y (by simp[aw.opers])]
  simp only[aj];grind
 |len s x=>cases s<;>(simp only[aj];rw[e1 x (by simp[aw.opers])])
 |alloc t z=>rfl
 |cH op ty ti args=>simp only[aj];rw[j3 args h]
 |exts op ty ti args=>simp only[aj];rw[j3 args h]
 |pick c x y=>simp only[aj];rw[e1 c (by simp[aw.opers]),e1 x (by simp[aw.opers]),e1 y (by simp[aw.opers])]
 |store n x y=>simp only[aj];rw[e1 x (by simp[aw.opers]),e1 y (by simp[aw.opers])]
 |bin op x y=>simp only[aj];rw[e1 x (by simp[aw.opers]),e1 y (by simp[aw.opers])]
 |iX n k x y=>simp only[aj];rw[e1 x (by simp[aw.opers]),e1 y (by simp[aw.opers])]
 |eqs n k x y=>simp only[aj];rw[e1 x (by simp[aw.opers]),e1 y (by simp[aw.opers])]
 |gE n x y=>simp only[aj];rw[e1 x (by simp[aw.opers]),e1 y (by simp[aw.opers])]
 |jt n k x y=>simp only[aj];rw[e1 x (by simp[aw.opers]),e1 y (by simp[aw.opers])]
 |idxs x y=>simp only[aj];rw[e1 x (by simp[aw.opers]),e1 y (by simp[aw.opers])]
 |append t n k z x y=>simp only[aj];rw[e1 x (by simp[aw.opers]),e1 y (by simp[aw.opers])]
 |max2 x y=>simp only[aj];rw[e1 x (by simp[aw.opers]),e1 y (by simp[aw.opers])]
 |min2 x y=>simp only[aj];rw[e1 x (by simp[aw.opers]),e1 y (by simp[aw.opers])]
 |mv x=>simp only[aj];rw[e1 x (by simp[aw.opers])]
 |box t x=>simp only[aj];rw[e1 x (by simp[aw.opers])]
 |load g n x=>simp only[aj];rw[e1 x (by simp[aw.opers])]
 |kZ x=>simp only[aj];rw[e1 x (by simp[aw.opers])]
 |un op x=>simp only[aj];rw[e1 x (by simp[aw.opers])]
 |mO k x=>simp only[aj];rw[e1 x (by simp[aw.opers])]
 |qN x=>simp only[aj];rw[e1 x (by simp[aw.opers])]
 |nA t x=>simp only[aj];rw[e1 x (by simp[aw.opers])]
 |panic x=>simp only[aj];rw[e1 x (by simp[aw.opers])]
 |jI n x=>simp only[aj];rw[e1 x (by simp[aw.opers])]
 |field g o n x=>simp only[aj];rw[e1 x (by simp[aw.opers])]
 |extract x i=>simp only[aj];rw[e1 x (by simp[aw.opers])]
def QV(P:Program)[Glob P](cfg:Nat→Nat)(c:CI)(rg:ag)(σ:Store)(x:AV):Prop:=dO P cfg c (fun y σ'=>y=x∧σ'=σ) (fun _ _=>False) rg σ
theorem uI{P:Program}[Glob P]{cfg:Nat→Nat}{c:CI}{rg ao:ag}{σ:Store}{x:AV}(h:∀ t∈c.reads,lk rg t=lk ao t)(hq:QV P cfg c rg σ x):QV P cfg c ao σ x:=by
 unfold QV dO at *
 have h1:∀ K E,aj P cfg c.d rg σ K E c.op=aj P cfg c.d ao σ K E c.op:=fun K E=>rV fun t ht=>h t (ZN _ ht)
 cases hg:c.g with
 |none=>grind
 |some p=>
  obtain⟨u,want⟩:=p
  have hu:lk rg u=lk ao u:=h u (Zt _ (by simp[hg]))
  grind
def Ae(P:Program)[Glob P](f:FuncId)(as:List AV)(K:AV→Prop):Prop:=∃ r,Pure P f as r∧K r
theorem qcall_congr{P:Program}[Glob P]{f:FuncId}{as as':List AV}{K:AV→Prop}(h:as=as'):Ae P f as K=Ae P f as' K:=by rw[h]
def aG(P:Program)[Glob P](cfg:Nat→Nat)(d:Option Nat)(rg:ag)(σ:Store)(K:AV→Prop):aw→Prop
 | .box .. | .alloc .. | .store .. | .append .. | .exts .. | .panic .. =>False
 | .cH op ty ti args=>∃ r,uH P op ty ti args (bo rg args) r∧K r
 | .dY f args=>match ev rg f with
  | .v (.func (.func f) a c)=>iU P f=true∧Ae P f (a.toList.map .v++bo rg args++c.toList.map .v) K
  | .cl f a c=>iU P f=true∧Ae P f (a++bo rg args++c) K
  |_=>False
 | .call f args=>Ae P f (bo rg args) K
 | .bM _ af parts=>match rowsOf af (bo rg parts)with
  |some rows=>rows.length≤1000000∧match cfg (d.getD 0)with
   |0=>K (.sl true af rows)
   |3=>K (.fl af rows)
   |_=>False
  |none=>False
 | .len true x=>match ev rg x with
  | .v (.string s)=>K (.v (.int .i64 s.size))
  |_=>False
 | .len false x=>match ev rg x with
  | .v (.slice _ n _)=>K (.v (.int .i64 n))
  | .ms _ _ _ n _=>K (.v (.int .i64 n))
  | .sl _ _ rows=>K (.v (.int .i64 rows.length))
  | .own _ _ _ _ _ rows=>K (.v (.int .i64 rows.length))
  |_=>False
 |op=>aj P cfg d rg σ (fun x _=>K x) (fun _ _=>False) op
theorem Vm{op:BinOp}{a b:Value}{K:Value→Prop}(h:oR op a b K):∃ x,K x∧∀ K':Value→Prop,K' x→oR op a b K':=by
 unfold oR at h
 split at h
 ·cases op<;>simp only at h<;>simp only[oR]
  all_goals grind
 ·cases op<;>simp only at h<;>simp only[oR]
  case add=>grind
  case eql=>grind
  case neq=>grind
  case lss=>grind
  case leq=>grind
  case gtr=>grind
  grind
 grind
theorem Ls{P:Program}[Glob P]{cfg:Nat→Nat}{d:Option Nat}{rg:ag}{σ:Store}{K:AV→Prop}{op:aw}(h:aG P cfg d rg σ K op):
  ∃ x,K x∧∀ (K':AV→Store→Prop) (E':List PanicEntry→Store→Prop),K' x σ→aj P cfg d rg σ K' E' op:=by
 cases op with
 |box t x=>exact h.elim
 |alloc t z=>exact h.elim
 |store n x y=>exact h.elim
 |append t n k z x y=>exact h.elim
 |exts op ty ti args=>exact h.elim
 |panic x=>exact h.elim
 |cH op ty ti args=>obtain⟨r,hp,hk⟩:=h;exact⟨r,hk,fun K' E' h=>(hp.sp σ).mono fun x σ' ⟨e1,e2⟩=>by grind⟩
 |call f args=>obtain⟨r,hp,hk⟩:=h;exact⟨r,hk,fun K' E' h=>xo hp h⟩
 |dY f args=>
  simp only[aG]at h
  simp only[aj]
  split at h
  ·rename_i g b c he
   obtain⟨b7,r,hp,hk⟩:=h
   (try rw[he])
   exact⟨r,hk,fun K' E' h=>⟨b7,xo hp h⟩⟩
  ·rename_i g b c he
   obtain⟨b7,r,hp,hk⟩:=h
   (try rw[he])
   exact⟨r,hk,fun K' E' h=>⟨b7,xo hp h⟩⟩
  grind
 |bM t af parts=>
  simp only[aG]at h
  simp only[aj]
  split at h
  ·rename_i rows he
   (try rw[he])
   obtain⟨hn,h⟩:=h
   split at h
   ·rename_i e;exact⟨_,h,fun K' E' hk=>⟨hn,by simp only[e];exact hk⟩⟩
   ·rename_i e;exact⟨_,h,fun K' E' hk=>⟨hn,by simp only[e];exact hk⟩⟩
   ·exact h.elim
  ·exact h.elim
 |len s x=>
  cases s<;>simp only[aG]at h<;>simp only[aj]
  ·split at h
   ·rename_i b n c he;(try rw[he]);exact⟨_,h,fun K' E' hk=>hk⟩
   ·rename_i tg b o n c he;(try rw[he]);exact⟨_,h,fun K' E' hk=>hk⟩
   ·rename_i nn ez rows he;(try rw[he]);exact⟨_,h,fun K' E' hk _=>hk⟩
   ·rename_i ez tg b u c rows he;(try rw[he]);exact⟨_,h,fun K' E' hk _=>hk⟩
   ·exact h.elim
  ·split at h
   ·rename_i s he;(try rw[he]);exact⟨_,h,fun K' E' hk=>hk⟩
   ·exact h.elim
 |mv x=>exact⟨_,h,fun K' E' hk=>hk⟩
 |nA t x=>exact⟨_,h,fun K' E' hk=>hk⟩
 |pick c x y=>
  simp only[aG,aj]at h
  simp only[aj]
  split at h
  ·rename_i t he;(try rw[he]);exact⟨_,h,fun K' E' hk=>hk⟩
  ·exact h.elim
 |build z parts=>
  simp only[aG,aj]at h
  simp only[aj]
  split at h
  ·rename_i t he;(try rw[he]);exact⟨_,h,fun K' E' hk=>hk⟩
  ·exact h.elim
 |load g n x=>
  simp only[aG,aj]at h
  simp only[aj]
  split at h
  ·rename_i tg b o he
   (try rw[he])
   split at h
   ·rename_i b' l hb
    obtain⟨rfl,h⟩:=h
    (try simp only[hb])
    cases g with
    |true=>simp only[Y4]at h ⊢;exact⟨_,h.2,fun K' E' hk=>⟨trivial,h.1,hk⟩⟩
    |false=>
     simp only[ZM,Zf]at h ⊢
     split at h
     ·rename_i y hy;(try rw[hy]);exact⟨_,h,fun K' E' hk=>⟨trivial,hk⟩⟩
     ·exact h.elim
   ·exact h.elim
  ·rename_i l he
   (try rw[he])
   cases g with
   |true=>simp only[Y4]at h ⊢;exact⟨_,h.2,fun K' E' hk=>⟨h.1,hk⟩⟩
   |false=>
    simp only[ZM,Zf]at h ⊢
    split at h
    ·rename_i y hy;(try rw[hy]);exact⟨_,h,fun K' E' hk=>hk⟩
    ·exact h.elim
  ·rename_i gv he
   (try rw[he])
   split at h
   ·rename_i l hl
    (try simp only[hl])
    cases g with
    |true=>simp only[Y4]at h ⊢;exact⟨_,h.2,fun K' E' hk=>⟨h.1,hk⟩⟩
    |false=>
     simp only[ZM,Zf]at h ⊢
     split at h
     ·rename_i y hy;(try rw[hy]);exact⟨_,h,fun K' E' hk=>hk⟩
     ·exact h.elim
   ·exact h.elim
  ·exact h.elim
 |kZ x=>
  simp only[aG,aj]at h
  simp only[aj]
  split at h<;>first|exact h.elim|(rename_i he;(try rw[he]);exact⟨_,h,fun K' E' hk=>hk⟩)
 |bin op x y=>
  simp only[aG,aj]at h
  simp only[aj]
  split at h
  ·rename_i u v hu hv
   (try rw[hu,hv])
   obtain⟨z,hz,pT⟩:=Vm h
   exact⟨.v z,hz,fun K' E' hk=>pT _ hk⟩
  ·exact h.elim
 |iX n k x y=>
  simp only[aG,aj]at h
  simp only[aj]
  split at h
  ·rename_i t he;(try rw[he]);exact⟨_,h,fun K' E' hk=>hk⟩
  ·exact h.elim
 |eqs n k x y=>
  simp only[aG,aj]at h
  simp only[aj]
  split at h
  ·rename_i xs ys h1 h2
   (try rw[h1,h2])
   split at h
   ·rename_i t he;(try simp only[he]);exact⟨_,h,fun K' E' hk=>hk⟩
   ·exact h.elim
  ·exact h.elim
 |un op x=>
  simp only[aG,aj]at h
  simp only[aj]
  split at h
  ·rename_i u hu
   (try rw[hu])
   split at h
   ·rename_i t he;(try simp only[he]);exact⟨_,h,fun K' E' hk=>hk⟩
   ·exact h.elim
  ·exact h.elim
 |mO k x=>
  simp only[aG,aj]at h
  simp only[aj]
  split at h
  ·rename_i k' n he;(try rw[he]);exact⟨_,h,fun K' E' hk=>hk⟩
  ·exact h.elim
 |qN x=>
  simp only[aG,aj]at h
  simp only[aj]
  split at h
  ·rename_i s he;(try rw[he]);exact⟨_,h,fun K' E' hk=>hk⟩
  ·exact h.elim
 |gG fn first captured=>
  simp only[aG,aj]at h
  simp only[aj]
  split at h
  ·rename_i u v h1 h2;(try rw[h1,h2]);exact⟨_,h,fun K' E' hk=>hk⟩
  ·split at h
   ·exact⟨_,h,fun K' E' hk=>hk⟩
   ·exact h.elim
 |slice af x lo hi=>
  simp only[aG,aj]at h
  simp only[aj]
  split at h
  ·rename_i cx eK h1 h2
   (try rw[h1,h2])
   split at h
   ·rename_i nn e rows he;(try simp only[he]);exact⟨_,h.2.2.2.2,fun K' E' hk=>⟨h.1,h.2.1,h.2.2.1,h.2.2.2.1,hk⟩⟩
   ·rename_i e tg b u c rows he;(try simp only[he]);exact⟨_,h.2.2.2.2,fun K' E' hk=>⟨h.1,h.2.1,h.2.2.1,h.2.2.2.1,hk⟩⟩
   ·rename_i he;(try simp only[he]);exact⟨_,h.2.2,fun K' E' hk=>⟨h.1,h.2.1,hk⟩⟩
   ·exact h.elim
  ·exact h.elim
 |jI off x=>
  simp only[aG,aj]at h
  simp only[aj]
  split at h<;>first|exact h.elim|(rename_i he;(try rw[he]);exact⟨_,h,fun K' E' hk=>hk⟩)
 |field g o n x=>
  simp only[aG,aj]at h
  simp only[aj]
  split at h
  ·rename_i l hl
   (try rw[hl])
   obtain⟨ax,h⟩:=h
   cases g with
   |true=>simp only[Y4]at h ⊢;exact⟨_,h,fun K' E' hk=>⟨ax,hk⟩⟩
   |false=>
    simp only[ZM,Zf]at h ⊢
    split at h
    ·rename_i y hy;(try rw[hy]);exact⟨_,h,fun K' E' hk=>⟨ax,hk⟩⟩
    ·exact h.elim
  ·exact h.elim
 |gE af x i=>
  simp only[aG,aj]at h
  simp only[aj]
  split at h
  ·rename_i k j hi
   (try rw[hi])
   split at h
   ·rename_i nn e rows he;(try simp only[he]);exact⟨_,h.2.2.2,fun K' E' hk=>⟨h.1,h.2.1,h.2.2.1,hk⟩⟩
   ·rename_i e tg b u c rows he;(try simp only[he]);exact⟨_,h.2.2.2,fun K' E' hk=>⟨h.1,h.2.1,h.2.2.1,hk⟩⟩
   ·rename_i tg b o n c he;(try simp only[he]);exact⟨_,h.2.2,fun K' E' hk=>⟨h.1,h.2.1,hk⟩⟩
   ·exact h.elim
  ·exact h.elim
 |jt n af x i=>
  simp only[aG,aj]at h
  simp only[aj]
  split at h
  ·rename_i k j hi
   (try rw[hi])
   split at h
   ·rename_i tg b o he;(try simp only[he]);exact⟨_,h.2.2,fun K' E' hk=>⟨h.1,h.2.1,hk⟩⟩
   ·rename_i l he;(try simp only[he]);exact⟨_,h.2.2,fun K' E' hk=>⟨h.1,h.2.1,hk⟩⟩
   ·rename_i g o he;(try simp only[he]);obtain⟨l,ha,h0,h1,h2,h3⟩:=h;exact⟨_,h3,fun K' E' hk=>⟨l,ha,h0,h1,h2,hk⟩⟩
   ·exact h.elim
  ·exact h.elim
 |idxs x i=>
  simp only[aG,aj]at h
  simp only[aj]
  split at h
  ·rename_i k j s h1 h2
   (try rw[h1,h2])
   obtain⟨ax,h⟩:=h
   exact⟨_,h,fun K' E' hk=>⟨ax,hk⟩⟩
  ·exact h.elim
 |extract x i=>
  simp only[aG,aj]at h
  simp only[aj]
  split at h
  ·rename_i xs he
   (try rw[he])
   split at h
   ·rename_i y hy;(try simp only[hy]);exact⟨_,h,fun K' E' hk=>hk⟩
   ·exact h.elim
  ·rename_i xs he
   (try rw[he])
   split at h
   ·rename_i y hy;(try simp only[hy]);exact⟨_,h,fun K' E' hk=>hk⟩
   ·exact h.elim
  ·exact h.elim
 |max2 x y=>
  simp only[aG,aj]at h
  simp only[aj]
  split at h
  ·rename_i u v h1 h2
   (try rw[h1,h2])
   split at h
   ·rename_i t he;(try simp only[he]);exact⟨_,h,fun K' E' hk=>hk⟩
   ·exact h.elim
  ·exact h.elim
 |min2 x y=>
  simp only[aG,aj]at h
  simp only[aj]
  split at h
  ·rename_i u v h1 h2
   (try rw[h1,h2])
   split at h
   ·rename_i t he;(try simp only[he]);exact⟨_,h,fun K' E' hk=>hk⟩
   ·exact h.elim
  ·exact h.elim
def uo(P:Program)[Glob P](cfg:Nat→Nat)(c:CI)(K:AV→Prop)(rg:ag)(σ:Store):Prop:=
 match c.g with
 |none=>aG P cfg c.d rg σ K c.op
 |some (t,want)=>match lk rg t with
  | .v (.bool b)=>(b=want→aG P cfg c.d rg σ K c.op)∧(b= !want→K (.v undef))
  | .v (.tuple _)=>K (.v undef)
  |_=>False
theorem Vo{P:Program}[Glob P]{cfg:Nat→Nat}{c:CI}{rg:ag}{σ:Store}{K:AV→Prop}(h:uo P cfg c K rg σ):∃ x,K x∧QV P cfg c rg σ x:=by
 unfold uo at h
 unfold QV dO
 cases hg:c.g with
 |none=>rw[hg]at h;obtain⟨x,hx,hv⟩:=Ls h;grind
 |some p=>
  obtain⟨u,want⟩:=p
  rw[hg]at h
  simp only at h ⊢
  split at h
  ·rename_i b he
   by_cases hb:b=want
   ·obtain⟨x,hx,hv⟩:=Ls (h.1 hb)
    grind
   ·have iG:b= !want:=by cases b<;>cases want<;>simp_all
    grind
  ·grind
  grind
def oS(P:Program)[Glob P](cfg:Nat→Nat):List CI→(K:ag→Prop)→ag→Store→Prop
 |[],K,rg,_=>K rg
 |c::l,K,rg,σ=>match c.g with
  |none=>aG P cfg c.d rg σ (fun x=>oS P cfg l K (cm c.d x rg) σ) c.op
  |some (t,want)=>match lk rg t with
   | .v (.bool b)=>Gd b want (aG P cfg c.d ((t,.v (.bool want))::rg) σ (fun x=>oS P cfg l K (cm c.d x ((t,.v (.bool want))::rg)) σ) c.op)
     (oS P cfg l K (cm c.d (.v undef) ((t,.v (.bool !want))::rg)) σ)
   | .v (.tuple _)=>oS P cfg l K (cm c.d (.v undef) rg) σ
   |_=>False
theorem Vu{P:Program}[Glob P]{cfg:Nat→Nat}{c:CI}{l:List CI}{K:ag→Prop}{rg:ag}{σ:Store}(h:oS P cfg (c::l) K rg σ):
  ∃ ao,(∀ i,lk ao i=lk rg i)∧uo P cfg c (fun x=>oS P cfg l K (cm c.d x ao) σ) ao σ:=by
 simp only[oS]at h
 split at h
 ·exact⟨rg,fun _=>rfl,by unfold uo;grind⟩
 ·rename_i t want hg
  split at h
  ·rename_i b hb
   by_cases s7:b=want
   ·subst s7
    have e:lk ((t,AV.v (.bool b))::rg) t= .v (.bool b):=by simp[lk,YB]
    refine⟨_,EB hb,?_⟩
    unfold uo
    rw[hg]
    simp only[e]
    exact⟨fun _=>h.l rfl,fun h'=>by grind⟩
   ·have iG:b= !want:=by cases b<;>cases want<;>simp_all
    subst iG
    have e:lk ((t,AV.v (.bool !want))::rg) t= .v (.bool !want):=by simp[lk,YB]
    refine⟨_,EB hb,?_⟩
    unfold uo
    rw[hg]
    simp only[e]
    exact⟨fun h'=>absurd h' s7,fun _=>h.r rfl⟩
  ·exact⟨rg,fun _=>rfl,by unfold uo;grind⟩
  grind
theorem yA{rg ao:ag}(h:∀ i,lk ao i=lk rg i)(d:Option Nat)(x:AV)(i:Nat):lk (cm d x ao) i=lk (cm d x rg) i:=by
 cases d with
 |none=>exact h i
 |some d=>simp only[cm,lk];rw[h]
theorem Sf(i j:Nat)(x:AV)(r:ag):lk ((i,x)::r) j=if i=j then x else lk r j:=by
 simp only[lk]
 simp_all
def dD:List CI→List AV→ag→ag
 |c::l,x::xs,rg=>dD l xs (cm c.d x rg)
 |_,_,rg=>rg
theorem Vs{P:Program}[Glob P]{cfg:Nat→Nat}{σ:Store}{K:ag→Prop}:∀ (l:List CI) (rg fV:ag),(∀ i,lk rg i=lk fV i)→oS P cfg l K rg σ→
  ∃ xs:List AV,xs.length=l.length∧(∃ gj,K gj∧∀ i,lk gj i=lk (dD l xs fV) i)∧∀ i (h:i<l.length) (h':i<xs.length),QV P cfg l[i] (dD (l.take i) (xs.take i) fV) σ xs[i]
 |[],rg,fV,he,h=>⟨[],rfl,⟨rg,h,he⟩,fun i h=>absurd h (by simp)⟩
 |c::l,rg,fV,he,h=>by
  obtain⟨ao,x5,hv⟩:=Vu h
  obtain⟨x,hx,hq⟩:=Vo hv
  have D2:∀ i,lk ao i=lk fV i:=fun i=>(x5 i).trans (he i)
  obtain⟨xs,h1,h2,h3⟩:=Vs l _ (cm c.d x fV) (yA D2 c.d x) hx
  refine⟨x::xs,by simp[h1],h2,fun i hi dk=> ?_⟩
  cases i with
  |zero=>exact uI (fun t _=>D2 t) hq
  |succ i=>simpa[dD]using h3 i (by grind) (by grind)
theorem axL{P:Program}[Glob P]{cfg:Nat→Nat}{d:Option Nat}{rg:ag}{σ:Store}{K:AV→Prop}{op:aw}(h4:op.cls=4)(h:aG P cfg d rg σ K op):False:=by
 cases op<;>simp only[aw.cls,reduceCtorEq,Nat.reduceEqDiff,Nat.zero_ne_add_one]at h4<;>exact h
theorem Vt{P:Program}[Glob P]{cfg:Nat→Nat}{σ:Store}{K:ag→Prop}:∀ (l:List CI) (rg:ag),(∀ c∈l,c.op.cls≤1∨(c.op.cls=4∧c.g=none))→oS P cfg l K rg σ→∀ c∈l,c.op.cls≤1
 |[],_,_,_=>fun _ h=>by cases h
 |c::l,rg,hc,h=>by
  obtain⟨ao,_,hv⟩:=Vu h
  obtain⟨x,hx,_⟩:=Vo hv
  intro c' gO
  rcases ZV.1 gO with rfl|gO
  ·rcases hc c' (by simp)with h1|⟨h1,h2⟩
   ·exact h1
   ·exfalso
    unfold uo at hv
    simp only[h2]at hv
    exact axL h1 hv
  ·exact Vt l _ (fun c h=>hc c (by simp[h])) hx c' gO
theorem vO:∀ (l:List CI) (xs:List AV) (rg:ag) (t:Nat),(∀ c∈l,c.d≠some t)→lk (dD l xs rg) t=lk rg t
 |[],xs,rg,t,_=>rfl
 |c::l,[],rg,t,_=>rfl
 |c::l,x::xs,rg,t,h=>by
  simp only[dD]
  rw[vO l xs _ t (fun c' hc=>h c' (ZU _ hc))]
  have hc:=h c (by simp)
  cases hd:c.d with
  |none=>rfl
  |some d=>
   have:Nat.beq d t=false:=by rw[← X9,Nat.beq_eq];grind
   simp[cm,lk,this]
theorem BW:∀ (l:List CI) (xs:List AV) (rg:ag),(l.map (·.d)).Nodup→xs.length=l.length→∀ j (h:j<l.length) (h':j<xs.length) t,l[j].d=some t→lk (dD l xs rg) t=xs[j]
 |[],xs,rg,_,_,j,h,_,_,_=>absurd h (by simp)
 |c::l,[],rg,_,hl,_,_,_,_,_=>by grind
 |c::l,x::xs,rg,hn,hl,j,h,h',t,hd=>by
  simp only[Zu,YG]at hn
  simp only[dD]
  cases j with
  |zero=>
   simp at hd ⊢
   rw[vO l xs _ t (fun c' hc e=>hn.1 (by grind))]
   simp[cm,hd,lk,YB]
  |succ j=>exact BW l xs _ hn.2 (by grind) j (by grind) (by grind) t (by grind)
theorem filter_lt{α:Type}(p q:α→Bool):∀ (l:List α),(∀ x∈l,q x=true→p x=true)→(∃ x∈l,p x=true∧q x=false)→(l.filter q).length+1≤(l.filter p).length
 |[],_,⟨x,hx,_⟩=>by grind
 |y::l,h,⟨x,hx,hp,hq⟩=>by
  have hle:∀ (l:List α),(∀ x∈l,q x=true→p x=true)→(l.filter q).length≤(l.filter p).length:=by
   intro l
   induction l with
   |nil=>simp
   |cons z l ih=>
    grind
  rcases ZV.1 hx with rfl|hx
  ·grind
  ·have ih:=filter_lt p q l (fun x hx=>h x (by simp[hx])) ⟨x,hx,hp,hq⟩
   grind
section
variable {P:Program}[Glob P]{M:Mem}{w0:Base}{w:World}{σ:Store}{rg:ag}{a:Act}{cfg:Nat→Nat}{N:Nat}
theorem Dn{ops:Array Oper}:∀ (os:List Oper) (l:List CI),iA P N ops os=some l→l.length=os.length∧∀ i (h:i<os.length) (h':i<l.length),qM P N ops os[i]=some l[i]
 |[],l,h=>by simp only[iA,Z1]at h;grind
 |o::os,l,h=>by
  simp only[iA]at h
  split at h
  ·obtain⟨l',h1,rfl⟩:=ZQ.1 h
   obtain⟨h2,h3⟩:=Dn os l' h1
   grind
  grind
theorem ac1{ops:Array Oper}{l:List CI}(h:qP ops l=true):∃ k,∃ hk:k<l.length,vV l 0=some k∧l[k].op.cls=4:=by
 unfold qP at h
 split at h
 ·cases h
 ·rename_i k e
  obtain⟨i,h1,h2,h3,_⟩:=Kv _ _ e
  obtain rfl:k=i:=by omega
  exact⟨k,h1,e,h3⟩
theorem OP{ops:Array Oper}{l:List CI}(h:qO ops l=true∨qP ops l=true):∀ c∈l,c.op.cls≤1∨(c.op.cls=4∧c.g=none):=fun c hc=>by
 have key:c.d.isSome=true∧(c.op.cls.ble 1=true∨(c.op.cls.beq 4=true∧c.g.isNone=true)):=by
  rcases h with h|h
  ·unfold qO at h
   simp_all
  ·unfold qP at h
   split at h
   ·cases h
   ·simp only[Z0,ZA,Y7]at h
    exact h.1.2 c hc
 simp_all
def C1(P:Program)[Glob P](cfg:Nat→Nat)(K:ag→Prop)(l:List CI)(rg:ag)(σ:Store):Prop:=
 ∃ xs:List AV,xs.length=l.length∧(∃ gj,K gj∧∀ i,lk gj i=lk (dD l xs rg) i)∧∀ i (h:i<l.length) (h':i<xs.length),QV P cfg l[i] (dD (l.take i) (xs.take i) rg) σ xs[i]
theorem xf{l:List CI}{Q:Exit→ag→Store→Prop}(cfg:Nat→Nat)(h:(∀ c∈l,c.op.cls≤1∨(c.op.cls=4∧c.g=none))→C1 P cfg (fun ao=>Q .normal ao σ) l rg σ∧∀ c∈l,c.op.cls≤1):SW P N (.dV l) Q rg σ:=by
 intro c hc M w0 a w hI hR hN hD
 obtain⟨id,ops,rfl,hl,bK,s8⟩:=eD hc
 obtain⟨hlen,x8⟩:=Dn ops.toList l hl
 have tf:l.length=ops.size:=by simpa using hlen
 obtain⟨⟨xs,pS,⟨gj,hK,hF⟩,hQV⟩,dw⟩:=h (OP bK)
 replace bK:qO ops l=true:=by
  rcases bK with bK|bK
  ·exact bK
  ·exfalso
   obtain⟨k,hk,_,h4⟩:=ac1 bK
   have:=dw _ (Zp hk)
   omega
 unfold qO at bK
 simp only[Z0,Zq]at bK
 obtain⟨⟨hnd,_⟩,pG⟩:=bK
 rw[ZA]at pG
 have er:∀ i (hi:i<l.length) (ho:i<ops.size),(∀ e∈ops[i].after,Region.binds .any e=true→e.on<i)∧∀ t∈l[i].reads,(∀ c∈l,c.d≠some t)∨∃ j,∃ hj:j<l.length,l[j].d=some t∧j<i∧∃ e∈ops[i].after,Region.binds .any e=true∧e.on=j:=by
  intro i hi ho
  have hm:((l[i],ops[i]),i)∈(l.zip ops.toList).zipIdx:=by
   rw[List.mem_zipIdx_iff_getElem?]
   simp[List.getElem?_zip_eq_some,hi,ho]
  have:=pG _ hm
  simp only[Z0]at this
  obtain⟨h1,h2⟩:=this
  have hb:∀ e∈ops[i].after,Region.binds .any e=true→e.on<i:=by
   intro e he kO
   have:=ZE.1 h1 e he
   simpa[kO]using this
  refine⟨hb,fun t ht=> ?_⟩
  have h3:=ZA.1 h2 t ht
  split at h3
  ·rename_i j hj
   right
   rw[X2]at h3
   obtain⟨m,lU,h4⟩:=h3
   simp only[Z0,beq_iff_eq]at h4
   have na:j<l.length∧(l.map (·.d))[j]? =some (some t):=by
    obtain⟨i',h5,h6⟩:=Kx _ _ hj
    obtain rfl:j=i':=by omega
    exact⟨by have:=(ZP.1 h6).1;simpa using this,h6⟩
   obtain⟨mZ,lS⟩:=na
   refine⟨j,mZ,by simpa[mZ]using lS,?_,ops[i].after[m],Ys lU,h4.1,h4.2⟩
   rw[← h4.2]
   exact hb _ (Ys lU) h4.1
  ·rename_i hj
   left
   intro c hc e
   exact Kw _ _ hj (by rw[← e];exact Yq hc)
 let RG:=dD l xs rg
 have xM:∀ j (h:j<l.length) t,l[j].d=some t→lk RG t=xs[j]'(by omega):=fun j h t ht=>BW l xs rg hnd pS j h (by omega) t ht
 have xN:∀ t,(∀ c∈l,c.d≠some t)→lk RG t=lk rg t:=fun t ht=>vO l xs rg t ht
 have hQ:∀ i (hi:i<l.length),QV P cfg l[i] RG σ (xs[i]'(by omega)):=by
  intro i hi
  refine uI (fun t ht=> ?_) (hQV i hi (by omega))
  rcases(er i hi (by omega)).2 t ht with hn|⟨j,hj,cO,j7,_⟩
  ·rw[xN t hn]
   exact vO _ _ _ _ (fun c hc=>hn c (List.mem_of_mem_take hc))
  ·rw[xM j hj t cO]
   have e1:(l.take i)[j]'(by simp;omega)=l[j]:=by simp
   have e2:(xs.take i)[j]'(by simp;omega)=xs[j]'(by omega):=by simp
   rw[← e2]
   refine BW (l.take i) (xs.take i) rg ?_ (by simp[pS]) j (by simp;omega) (by simp;omega) t (by rw[e1];exact cO)
   rw[XM]
   exact hnd.sublist (List.take_sublist _ _)
 refine G8 s8 ?_
 have main:∀ (fuel:Nat) (listed:Array Bool) (a:Act) (w:World),listed.size=ops.size→((List.range ops.size).filter (fun i=> !listed.getD i true)).length≤fuel→
   (∃ M2,M.le M2∧Inv P M2 w0 σ w∧a.tmps.size=N∧a.defers=Glob.df P∧(∀ t,(∀ c∈l,c.d≠some t)→R M2 (lk rg t) (a.tmps.getD t undef))∧∀ j (h:j<l.length) t,listed.getD j true=true→l[j].d=some t→R M2 (xs[j]'(by omega)) (a.tmps.getD t undef))→
   wpAny P .any ops (iB P M w0 N Q) fuel listed a w:=by
  intro fuel
  induction fuel with
  |zero=>
   rintro listed a w aQ xX ⟨M2,g1,g2,g3,g4,g5,g6⟩
   have cV:∀ i,i<ops.size→listed.getD i true=true:=by
    intro i hi
    cases om:listed.getD i true with
    |true=>rfl
    |false=>
     have:i∈(List.range ops.size).filter (fun i=> !listed.getD i true):=by simp only[Ze,Y6,hi,om,XF,and_self]
     have:=List.length_pos_of_mem this
     omega
   refine⟨?_,M2,gj,σ,g1,g2,fun t=> ?_,g3,g4,hK⟩
   ·unfold Region.ready
    rw[X4]
    intro i hi
    simp[cV i (by simpa using hi)]
   ·rw[hF]
    by_cases ht:∃ j,∃ h:j<l.length,l[j].d=some t
    ·obtain⟨j,hj,cO⟩:=ht
     show R M2 (lk RG t) _
     rw[xM j hj t cO]
     exact g6 j hj t (cV j (by omega)) cO
    ·show R M2 (lk RG t) _
     rw[xN t (fun c hc e=>by
      obtain⟨j,hj,rfl⟩:=Y5.1 hc
      exact ht ⟨j,hj,e⟩)]
     exact g5 t (fun c hc e=>by
      obtain⟨j,hj,rfl⟩:=Y5.1 hc
      exact ht ⟨j,hj,e⟩)
  |succ fuel ih=>
   rintro listed a w aQ xX ⟨M2,g1,g2,g3,g4,g5,g6⟩
   refine⟨fun hr=> ?_,fun i hi=> ?_⟩
   ·
    have cV:∀ i,i<ops.size→listed.getD i true=true:=by
     intro i
     induction i using Nat.strongRecOn with
     |_ i JM=>
      intro hi
      cases om:listed.getD i true with
      |true=>rfl
      |false=>
       have:i∈Region.ready .any ops listed:=by
        unfold Region.ready
        rw[Ze]
        refine⟨by simpa using hi,?_⟩
        simp only[om,XF,Bool.true_and,ZL hi,Zh,Zx]
        rw[ZE]
        intro e he
        cases kO:Region.binds .any e with
        |false=>rfl
        |true=>
         have ax:=(er i (by omega) hi).1 e he kO
         have:=JM e.on ax (by omega)
         have h2:listed.getD e.on false=true:=by
          rw[Z2]at this ⊢
          rw[ZL (by omega)]at this ⊢
          exact this
         simp[h2]
       rw[hr]at this
       cases this
    refine⟨M2,gj,σ,g1,g2,fun t=> ?_,g3,g4,hK⟩
    rw[hF]
    by_cases ht:∃ j,∃ h:j<l.length,l[j].d=some t
    ·obtain⟨j,hj,cO⟩:=ht
     show R M2 (lk RG t) _
     rw[xM j hj t cO]
     exact g6 j hj t (cV j (by omega)) cO
    ·show R M2 (lk RG t) _
     rw[xN t (fun c hc e=>by
      obtain⟨j,hj,rfl⟩:=Y5.1 hc
      exact ht ⟨j,hj,e⟩)]
     exact g5 t (fun c hc e=>by
      obtain⟨j,hj,rfl⟩:=Y5.1 hc
      exact ht ⟨j,hj,e⟩)
   ·unfold Region.ready at hi
    rw[Ze]at hi
    obtain⟨qU,lO⟩:=hi
    have gd:i<ops.size:=by simpa using qU
    simp only[Z0,YW,ZL gd,Zh,Zx]at lO
    obtain⟨qZ,x3⟩:=lO
    have bJ:i<l.length:=by omega
    have pF:qM P N ops ops[i]=some l[i]:=by have:=x8 i (by simpa using gd) bJ;simpa using this
    obtain⟨j6,ax⟩:=AD pF
    let ao:=Sx.fG l[i].reads RG
    have qS:bQ M2 ao a:=by
     intro t
     by_cases ht:t∈l[i].reads
     ·rw[EA ht]
      rcases(er i bJ gd).2 t ht with hn|⟨j,hj,cO,j7,e,he,kO,IW⟩
      ·rw[xN t hn];exact g5 t hn
      ·rw[xM j hj t cO]
       refine g6 j hj t ?_ cO
       have:=ZE.1 x3 e he
       simp only[kO,Bool.not_true,Bool.false_or,IW]at this
       rw[Z2]at this ⊢
       rw[ZL (by omega)]at this ⊢
       exact this
     ·rw[Sg ht];exact .any _
    have hq:QV P cfg l[i] ao σ (xs[i]'(by omega)):=uI (fun t ht=>(EA ht).symm) (hQ i bJ)
    unfold wpOp
    simp only[ZL gd]
    refine uY (K:=fun y σ'=>y=xs[i]'(by omega)∧σ'=σ) (E:=fun _ _=>False) pF hq g2 qS ⟨?_,fun _ _ _ _ _ _ h=>h.elim⟩
    rintro M3 x σ' v w' hM aP hx ⟨rfl,rfl⟩
    refine ih _ _ _ (by simp[aQ]) ?_ ⟨M3,g1.trans hM,aP,by rw[Act.size_put];exact g3,by rw[Act.AG];exact g4,fun t ht=> ?_,fun j hj t jN cO=> ?_⟩
    ·have:=filter_lt (fun i=> !listed.getD i true) (fun k=> !(listed.setIfInBounds i true).getD k true) (List.range ops.size) (fun k _ hk=>by
      simp only[YW]at hk ⊢
      rw[Z2,Zv]at hk
      split at hk
      ·split at hk<;>simp at hk
      ·rw[Z2];exact hk) ⟨i,qU,by simpa using qZ,by
       simp only[Bool.not_eq_false']
       rw[Z2,Zv]
       simp[aQ,gd]⟩
     omega
    ·have aJ:ops[i].dst≠some t:=by rw[← j6];exact ht _ (Zp bJ)
     have:=(g5 t ht).mono hM
     have e:(a.put ops[i].dst v).tmps.getD t undef=a.tmps.getD t undef:=by
      cases hd:ops[i].dst with
      |none=>rfl
      |some u=>
       have vD:u≠t:=fun e=>aJ (by rw[hd,e])
       simp[Act.put,YV vD]
     rw[e];exact this
    ·by_cases gA:j=i
     ·subst gA
      have hd:ops[j].dst=some t:=by rw[← j6];exact cO
      have Jy:t<a.tmps.size:=by rw[g3];exact ax t cO
      have e:(a.put ops[j].dst v).tmps.getD t undef=v:=by simp[hd,Act.put,Jy]
      rw[e];exact hx
     ·have D9:listed.getD j true=true:=by
       rw[Z2,Zv,Z9 (fun e=>gA e.symm)]at jN
       rw[Z2];exact jN
      have:=(g6 j hj t D9 cO).mono hM
      have e:(a.put ops[i].dst v).tmps.getD t undef=a.tmps.getD t undef:=by
       cases hd:ops[i].dst with
       |none=>rfl
       |some u=>
        have vD:u≠t:=fun e=>by
         subst e
         have h1:l[i].d=some u:=j6.trans hd
         have ou:=Yj.1 hnd
         rcases Yu i j with h|h|h
         ·exact ou i j (by simpa using bJ) (by simpa using hj) h (by simp[h1,cO])
         ·exact gA h.symm
         ·exact ou j i (by simpa using hj) (by simpa using bJ) h (by simp[h1,cO])
        simp[Act.put,YV vD]
      rw[e];exact this
 refine main ops.size _ a _ (by simp) ?_ ⟨M,Mem.le.refl _,hI.lK,hN,hD,fun t _=>hR t,fun j hj t jN _=> ?_⟩
 ·exact Zk (XE _ _) (by simp)
 ·exfalso
  have vv:j<ops.size:=by omega
  simp[vv]at jN
where
 EA {l:List Nat} {rg:ag} {t:Nat} (h:t∈l):lk (Sx.fG l rg) t=lk rg t:=by
  induction l with
  |nil=>cases h
  |cons u l ih=>
   simp only[Sx.fG,lk]
   cases hb:Nat.beq u t with
   |true=>rw[ZB hb];rfl
   |false=>
    rcases ZV.1 h with rfl|h
    ·simp[YB]at hb
    ·exact ih h
 Sg {l:List Nat} {rg:ag} {t:Nat} (h:t∉l):lk (Sx.fG l rg) t= .any:=by
  induction l with
  |nil=>rfl
  |cons u l ih=>
   simp only[Sx.fG,lk]
   cases hb:Nat.beq u t with
   |true=>exact absurd (ZV.2 (.inl (ZB hb).symm)) h
   |false=>exact ih (fun hm=>h (ZU _ hm))
theorem Wx{l:List CI}{Q:Exit→ag→Store→Prop}(cfg:Nat→Nat)(h:oS P cfg l (fun ao=>Q .normal ao σ) rg σ):SW P N (.dV l) Q rg σ:=
 xf cfg fun hc=>⟨Vs l rg rg (fun _=>rfl) h,Vt l rg hc h⟩
end
end Go.Sx
