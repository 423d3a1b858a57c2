/-
  The layer Sx, eleventh part: a region whose order is open and whose operations only compute.
-/
import Derived.Test.YtajimcniogfpcaaGreatDoorSxCtl
set_option linter.unusedVariables false
set_option linter.unusedSimpArgs false
set_option linter.unusedSectionVars false
namespace Go.Sx
open Go.RowKit
theorem uf{rg ak:af}{x:Operand}(h:∀ t∈tmpsOf [x],lk rg t=lk ak t):ev rg x=ev ak x:=by
 cases x<;>simp_all [ev,tmpsOf]
theorem s7(x:Operand)(l:List Operand):tmpsOf (x::l)=tmpsOf [x]++tmpsOf l:=by cases x<;>rfl
theorem MN(l l':List Operand):tmpsOf (l++l')=tmpsOf l++tmpsOf l':=by
 induction l with
 |nil=>rfl
 |cons x l ih=>rw[ZH,s7,s7 x l,ih,Zt]
theorem kY{rg ak:af}:∀ (l:List Operand),(∀ t∈tmpsOf l,lk rg t=lk ak t)→aE rg l=aE ak l
 |[],_=>rfl
 |x::l,h=>by
  rw[s7]at h
  simp only[aE]
  rw[uf fun t ht=>h t (ZI _ ht),kY l fun t ht=>h t (Zp _ ht)]
theorem O9{rg ak:af}:∀ (l:List (Nat×Nat×Operand)),(∀ t∈tmpsOf (l.map (·.2.2)),lk rg t=lk ak t)→mJ rg l=mJ ak l
 |[],_=>rfl
 |(o,n,x)::l,h=>by
  rw[ZE,s7]at h
  simp only[mJ]
  rw[uf fun t ht=>h t (ZI _ ht),O9 l fun t ht=>h t (Zp _ ht)]
theorem qW{P:Program}[Glob P]{cfg:Nat→Nat}{d:Option Nat}{rg ak:af}{σ:Store}{K:AV→Store→Prop}{E:List PanicEntry→Store→Prop}{op:aw}(h:∀ t∈tmpsOf op.opers,lk rg t=lk ak t):
  al P cfg d rg σ K E op=al P cfg d ak σ K E op:=by
 have e1:∀ x,x∈op.opers→ev rg x=ev ak x:=fun x hx=>uf fun t ht=>h t (by
  obtain⟨l1,l2,e⟩:=XP hx
  rw[e,MN,s7]
  grind)
 cases op with
 |build z parts=>simp only[al];rw[O9 parts h]
 |dZ t ag parts=>simp only[al];rw[kY parts h]
 |call f args=>simp only[al];rw[kY args h]
 |fR f args=>
  have hf:ev rg f=ev ak f:=e1 f (by simp[aw.opers])
  have ha:aE rg args=aE ak args:=kY args fun t ht=>h t (by simp only[aw.opers];rw[s7];grind)
  simp only[al];grind
 |od fn first captured=>
  have hf:aE rg first=aE ak first:=kY first fun t ht=>h t (by simp only[aw.opers];rw[MN];grind)
  have ha:aE rg captured=aE ak captured:=kY captured fun t ht=>h t (by simp only[aw.opers];rw[MN];grind)
  simp only[al];grind
 |slice ag x lo hi=>
  have hx:ev rg x=ev ak x:=e1 x (by simp[aw.opers])
  have hl:lo.map (ev rg)=lo.map (ev ak):=by cases lo with
   |none=>rfl
   |some y=>simp only[ZD];rw[e1 y (by simp[aw.opers])]
  have hh:hi.map (ev rg)=hi.map (ev ak):=by cases hi with
   |none=>rfl
   |some y=>simp only[ZD];rw[e1 y (by simp[aw.opers])]
  simp only[al];grind
 |len s x=>cases s<;>(simp only[al];rw[e1 x (by simp[aw.opers])])
 |alloc t z=>rfl
 |cQ op ty ti args=>simp only[al];rw[kY args h]
 |exts op ty ti args=>simp only[al];rw[kY args h]
 |pick c x y=>simp only[al];rw[e1 c (by simp[aw.opers]),e1 x (by simp[aw.opers]),e1 y (by simp[aw.opers])]
 |store n x y=>simp only[al];rw[e1 x (by simp[aw.opers]),e1 y (by simp[aw.opers])]
 |bin op x y=>simp only[al];rw[e1 x (by simp[aw.opers]),e1 y (by simp[aw.opers])]
 |jR n k x y=>simp only[al];rw[e1 x (by simp[aw.opers]),e1 y (by simp[aw.opers])]
 |eqs n k x y=>simp only[al];rw[e1 x (by simp[aw.opers]),e1 y (by simp[aw.opers])]
 |iz n x y=>simp only[al];rw[e1 x (by simp[aw.opers]),e1 y (by simp[aw.opers])]
 |mY n k x y=>simp only[al];rw[e1 x (by simp[aw.opers]),e1 y (by simp[aw.opers])]
 |idxs x y=>simp only[al];rw[e1 x (by simp[aw.opers]),e1 y (by simp[aw.opers])]
 |append t n k z x y=>simp only[al];rw[e1 x (by simp[aw.opers]),e1 y (by simp[aw.opers])]
 |max2 x y=>simp only[al];rw[e1 x (by simp[aw.opers]),e1 y (by simp[aw.opers])]
 |min2 x y=>simp only[al];rw[e1 x (by simp[aw.opers]),e1 y (by simp[aw.opers])]
 |mv x=>simp only[al];rw[e1 x (by simp[aw.opers])]
 |box t x=>simp only[al];rw[e1 x (by simp[aw.opers])]
 |load g n x=>simp only[al];rw[e1 x (by simp[aw.opers])]
 |nk x=>simp only[al];rw[e1 x (by simp[aw.opers])]
 |un op x=>simp only[al];rw[e1 x (by simp[aw.opers])]
 |mI k x=>simp only[al];rw[e1 x (by simp[aw.opers])]
 |nF x=>simp only[al];rw[e1 x (by simp[aw.opers])]
 |oe t x=>simp only[al];rw[e1 x (by simp[aw.opers])]
 |panic x=>simp only[al];rw[e1 x (by simp[aw.opers])]
 |dk n x=>simp only[al];rw[e1 x (by simp[aw.opers])]
 |field g o n x=>simp only[al];rw[e1 x (by simp[aw.opers])]
 |extract x i=>simp only[al];rw[e1 x (by simp[aw.opers])]
def QV(P:Program)[Glob P](cfg:Nat→Nat)(c:CI)(rg:af)(σ:Store)(x:AV):Prop:=bY P cfg c (fun y σ'=>y=x∧σ'=σ) (fun _ _=>False) rg σ
theorem wj{P:Program}[Glob P]{cfg:Nat→Nat}{c:CI}{rg ak:af}{σ:Store}{x:AV}(h:∀ t∈c.reads,lk rg t=lk ak t)(hq:QV P cfg c rg σ x):QV P cfg c ak σ x:=by
 unfold QV bY at *
 have h1:∀ K E,al P cfg c.d rg σ K E c.op=al P cfg c.d ak σ K E c.op:=fun K E=>qW fun t ht=>h t (ZI _ ht)
 cases hg:c.g with
 |none=>grind
 |some p=>
  obtain⟨u,want⟩:=p
  have hu:lk rg u=lk ak u:=h u (Zp _ (by simp[hg]))
  grind
def wh(P:Program)[Glob P](f:FuncId)(as:List AV)(K:AV→Prop):Prop:=∃ r,Pure P f as r∧K r
theorem qcall_congr{P:Program}[Glob P]{f:FuncId}{as as':List AV}{K:AV→Prop}(h:as=as'):wh P f as K=wh P f as' K:=by rw[h]
def aJ(P:Program)[Glob P](cfg:Nat→Nat)(d:Option Nat)(rg:af)(σ:Store)(K:AV→Prop):aw→Prop
 | .box .. | .alloc .. | .store .. | .append .. | .exts .. | .panic .. =>False
 | .cQ op ty ti args=>∃ r,ko P op ty ti args (aE rg args) r∧K r
 | .fR f args=>match ev rg f with
  | .v (.func (.func f) a c)=>ij P f=true∧wh P f (a.toList.map .v++aE rg args++c.toList.map .v) K
  | .cl f a c=>ij P f=true∧wh P f (a++aE rg args++c) K
  |_=>False
 | .call f args=>wh P f (aE rg args) K
 | .dZ _ ag parts=>match rowsOf ag (aE rg parts)with
  |some rows=>rows.length≤1000000∧match cfg (d.getD 0)with
   |0=>K (.sl true ag rows)
   |3=>K (.fl ag rows)
   |_=>False
  |none=>False
 | .len true x=>match ev rg x with
  | .v (.string s)=>K (.v (.int .i64 s.size))
  |_=>False
 | .len false x=>match ev rg x with
  | .v (.slice _ n _)=>K (.v (.int .i64 n))
  | .ms _ _ _ n _=>K (.v (.int .i64 n))
  | .sl _ _ rows=>K (.v (.int .i64 rows.length))
  | .own _ _ _ _ _ rows=>K (.v (.int .i64 rows.length))
  |_=>False
 |op=>al P cfg d rg σ (fun x _=>K x) (fun _ _=>False) op
theorem VG{op:BinOp}{a b:Value}{K:Value→Prop}(h:mB op a b K):∃ x,K x∧∀ K':Value→Prop,K' x→mB op a b K':=by
 unfold mB at h
 split at h
 ·cases op<;>simp only at h<;>simp only[mB]
  all_goals grind
 ·cases op<;>simp only at h<;>simp only[mB]
  case add=>grind
  case eql=>grind
  case neq=>grind
  case lss=>grind
  case leq=>grind
  case gtr=>grind
  grind
 grind
theorem M7{P:Program}[Glob P]{cfg:Nat→Nat}{d:Option Nat}{rg:af}{σ:Store}{K:AV→Prop}{op:aw}(h:aJ P cfg d rg σ K op):
  ∃ x,K x∧∀ (K':AV→Store→Prop) (E':List PanicEntry→Store→Prop),K' x σ→al P cfg d rg σ K' E' op:=by
 cases op with
 |box t x=>exact h.elim
 |alloc t z=>exact h.elim
 |store n x y=>exact h.elim
 |append t n k z x y=>exact h.elim
 |exts op ty ti args=>exact h.elim
 |panic x=>exact h.elim
 |cQ op ty ti args=>obtain⟨r,hp,hk⟩:=h;exact⟨r,hk,fun K' E' h=>(hp.sp σ).mono fun x σ' ⟨e1,e2⟩=>by grind⟩
 |call f args=>obtain⟨r,hp,hk⟩:=h;exact⟨r,hk,fun K' E' h=>rA hp h⟩
 |fR f args=>
  simp only[aJ]at h
  simp only[al]
  split at h
  ·rename_i g b c he
   obtain⟨bE,r,hp,hk⟩:=h
   (try rw[he])
   exact⟨r,hk,fun K' E' h=>⟨bE,rA hp h⟩⟩
  ·rename_i g b c he
   obtain⟨bE,r,hp,hk⟩:=h
   (try rw[he])
   exact⟨r,hk,fun K' E' h=>⟨bE,rA hp h⟩⟩
  grind
 |dZ t ag parts=>
  simp only[aJ]at h
  simp only[al]
  split at h
  ·rename_i rows he
   (try rw[he])
   obtain⟨hn,h⟩:=h
   split at h
   ·rename_i e;exact⟨_,h,fun K' E' hk=>⟨hn,by simp only[e];exact hk⟩⟩
   ·rename_i e;exact⟨_,h,fun K' E' hk=>⟨hn,by simp only[e];exact hk⟩⟩
   ·exact h.elim
  ·exact h.elim
 |len s x=>
  cases s<;>simp only[aJ]at h<;>simp only[al]
  ·split at h
   ·rename_i b n c he;(try rw[he]);exact⟨_,h,fun K' E' hk=>hk⟩
   ·rename_i tg b o n c he;(try rw[he]);exact⟨_,h,fun K' E' hk=>hk⟩
   ·rename_i nn ez rows he;(try rw[he]);exact⟨_,h,fun K' E' hk _=>hk⟩
   ·rename_i ez tg b u c rows he;(try rw[he]);exact⟨_,h,fun K' E' hk _=>hk⟩
   ·exact h.elim
  ·split at h
   ·rename_i s he;(try rw[he]);exact⟨_,h,fun K' E' hk=>hk⟩
   ·exact h.elim
 |mv x=>exact⟨_,h,fun K' E' hk=>hk⟩
 |oe t x=>exact⟨_,h,fun K' E' hk=>hk⟩
 |pick c x y=>
  simp only[aJ,al]at h
  simp only[al]
  split at h
  ·rename_i t he;(try rw[he]);exact⟨_,h,fun K' E' hk=>hk⟩
  ·exact h.elim
 |build z parts=>
  simp only[aJ,al]at h
  simp only[al]
  split at h
  ·rename_i t he;(try rw[he]);exact⟨_,h,fun K' E' hk=>hk⟩
  ·exact h.elim
 |load g n x=>
  simp only[aJ,al]at h
  simp only[al]
  split at h
  ·rename_i tg b o he
   (try rw[he])
   split at h
   ·rename_i b' l hb
    obtain⟨rfl,h⟩:=h
    (try simp only[hb])
    cases g with
    |true=>simp only[Y2]at h ⊢;exact⟨_,h.2,fun K' E' hk=>⟨trivial,h.1,hk⟩⟩
    |false=>
     simp only[ZV,Y8]at h ⊢
     split at h
     ·rename_i y hy;(try rw[hy]);exact⟨_,h,fun K' E' hk=>⟨trivial,hk⟩⟩
     ·exact h.elim
   ·exact h.elim
  ·rename_i l he
   (try rw[he])
   cases g with
   |true=>simp only[Y2]at h ⊢;exact⟨_,h.2,fun K' E' hk=>⟨h.1,hk⟩⟩
   |false=>
    simp only[ZV,Y8]at h ⊢
    split at h
    ·rename_i y hy;(try rw[hy]);exact⟨_,h,fun K' E' hk=>hk⟩
    ·exact h.elim
  ·rename_i gv he
   (try rw[he])
   split at h
   ·rename_i l hl
    (try simp only[hl])
    cases g with
    |true=>simp only[Y2]at h ⊢;exact⟨_,h.2,fun K' E' hk=>⟨h.1,hk⟩⟩
    |false=>
     simp only[ZV,Y8]at h ⊢
     split at h
     ·rename_i y hy;(try rw[hy]);exact⟨_,h,fun K' E' hk=>hk⟩
     ·exact h.elim
   ·exact h.elim
  ·exact h.elim
 |nk x=>
  simp only[aJ,al]at h
  simp only[al]
  split at h<;>first|exact h.elim|(rename_i he;(try rw[he]);exact⟨_,h,fun K' E' hk=>hk⟩)
 |bin op x y=>
  simp only[aJ,al]at h
  simp only[al]
  split at h
  ·rename_i u v hu hv
   (try rw[hu,hv])
   obtain⟨z,hz,qy⟩:=VG h
   exact⟨.v z,hz,fun K' E' hk=>qy _ hk⟩
  ·exact h.elim
 |jR n k x y=>
  simp only[aJ,al]at h
  simp only[al]
  split at h
  ·rename_i t he;(try rw[he]);exact⟨_,h,fun K' E' hk=>hk⟩
  ·exact h.elim
 |eqs n k x y=>
  simp only[aJ,al]at h
  simp only[al]
  split at h
  ·rename_i xs ys h1 h2
   (try rw[h1,h2])
   split at h
   ·rename_i t he;(try simp only[he]);exact⟨_,h,fun K' E' hk=>hk⟩
   ·exact h.elim
  ·exact h.elim
 |un op x=>
  simp only[aJ,al]at h
  simp only[al]
  split at h
  ·rename_i u hu
   (try rw[hu])
   split at h
   ·rename_i t he;(try simp only[he]);exact⟨_,h,fun K' E' hk=>hk⟩
   ·exact h.elim
  ·exact h.elim
 |mI k x=>
  simp only[aJ,al]at h
  simp only[al]
  split at h
  ·rename_i k' n he;(try rw[he]);exact⟨_,h,fun K' E' hk=>hk⟩
  ·exact h.elim
 |nF x=>
  simp only[aJ,al]at h
  simp only[al]
  split at h
  ·rename_i s he;(try rw[he]);exact⟨_,h,fun K' E' hk=>hk⟩
  ·exact h.elim
 |od fn first captured=>
  simp only[aJ,al]at h
  simp only[al]
  split at h
  ·rename_i u v h1 h2;(try rw[h1,h2]);exact⟨_,h,fun K' E' hk=>hk⟩
  ·split at h
   ·exact⟨_,h,fun K' E' hk=>hk⟩
   ·exact h.elim
 |slice ag x lo hi=>
  simp only[aJ,al]at h
  simp only[al]
  split at h
  ·rename_i cL eW h1 h2
   (try rw[h1,h2])
   split at h
   ·rename_i nn e rows he;(try simp only[he]);exact⟨_,h.2.2.2.2,fun K' E' hk=>⟨h.1,h.2.1,h.2.2.1,h.2.2.2.1,hk⟩⟩
   ·rename_i e tg b u c rows he;(try simp only[he]);exact⟨_,h.2.2.2.2,fun K' E' hk=>⟨h.1,h.2.1,h.2.2.1,h.2.2.2.1,hk⟩⟩
   ·rename_i he;(try simp only[he]);exact⟨_,h.2.2,fun K' E' hk=>⟨h.1,h.2.1,hk⟩⟩
   ·exact h.elim
  ·exact h.elim
 |dk off x=>
  simp only[aJ,al]at h
  simp only[al]
  split at h<;>first|exact h.elim|(rename_i he;(try rw[he]);exact⟨_,h,fun K' E' hk=>hk⟩)
 |field g o n x=>
  simp only[aJ,al]at h
  simp only[al]
  split at h
  ·rename_i l hl
   (try rw[hl])
   obtain⟨ar,h⟩:=h
   cases g with
   |true=>simp only[Y2]at h ⊢;exact⟨_,h,fun K' E' hk=>⟨ar,hk⟩⟩
   |false=>
    simp only[ZV,Y8]at h ⊢
    split at h
    ·rename_i y hy;(try rw[hy]);exact⟨_,h,fun K' E' hk=>⟨ar,hk⟩⟩
    ·exact h.elim
  ·exact h.elim
 |iz ag x i=>
  simp only[aJ,al]at h
  simp only[al]
  split at h
  ·rename_i k j hi
   (try rw[hi])
   split at h
   ·rename_i nn e rows he;(try simp only[he]);exact⟨_,h.2.2.2,fun K' E' hk=>⟨h.1,h.2.1,h.2.2.1,hk⟩⟩
   ·rename_i e tg b u c rows he;(try simp only[he]);exact⟨_,h.2.2.2,fun K' E' hk=>⟨h.1,h.2.1,h.2.2.1,hk⟩⟩
   ·rename_i tg b o n c he;(try simp only[he]);exact⟨_,h.2.2,fun K' E' hk=>⟨h.1,h.2.1,hk⟩⟩
   ·exact h.elim
  ·exact h.elim
 |mY n ag x i=>
  simp only[aJ,al]at h
  simp only[al]
  split at h
  ·rename_i k j hi
   (try rw[hi])
   split at h
   ·rename_i tg b o he;(try simp only[he]);exact⟨_,h.2.2,fun K' E' hk=>⟨h.1,h.2.1,hk⟩⟩
   ·rename_i l he;(try simp only[he]);exact⟨_,h.2.2,fun K' E' hk=>⟨h.1,h.2.1,hk⟩⟩
   ·rename_i g o he;(try simp only[he]);obtain⟨l,ha,h0,h1,h2,h3⟩:=h;exact⟨_,h3,fun K' E' hk=>⟨l,ha,h0,h1,h2,hk⟩⟩
   ·exact h.elim
  ·exact h.elim
 |idxs x i=>
  simp only[aJ,al]at h
  simp only[al]
  split at h
  ·rename_i k j s h1 h2
   (try rw[h1,h2])
   obtain⟨ar,h⟩:=h
   exact⟨_,h,fun K' E' hk=>⟨ar,hk⟩⟩
  ·exact h.elim
 |extract x i=>
  simp only[aJ,al]at h
  simp only[al]
  split at h
  ·rename_i xs he
   (try rw[he])
   split at h
   ·rename_i y hy;(try simp only[hy]);exact⟨_,h,fun K' E' hk=>hk⟩
   ·exact h.elim
  ·rename_i xs he
   (try rw[he])
   split at h
   ·rename_i y hy;(try simp only[hy]);exact⟨_,h,fun K' E' hk=>hk⟩
   ·exact h.elim
  ·exact h.elim
 |max2 x y=>
  simp only[aJ,al]at h
  simp only[al]
  split at h
  ·rename_i u v h1 h2
   (try rw[h1,h2])
   split at h
   ·rename_i t he;(try simp only[he]);exact⟨_,h,fun K' E' hk=>hk⟩
   ·exact h.elim
  ·exact h.elim
 |min2 x y=>
  simp only[aJ,al]at h
  simp only[al]
  split at h
  ·rename_i u v h1 h2
   (try rw[h1,h2])
   split at h
   ·rename_i t he;(try simp only[he]);exact⟨_,h,fun K' E' hk=>hk⟩
   ·exact h.elim
  ·exact h.elim
def vQ(P:Program)[Glob P](cfg:Nat→Nat)(c:CI)(K:AV→Prop)(rg:af)(σ:Store):Prop:=
 match c.g with
 |none=>aJ P cfg c.d rg σ K c.op
 |some (t,want)=>match lk rg t with
  | .v (.bool b)=>(b=want→aJ P cfg c.d rg σ K c.op)∧(b= !want→K (.v undef))
  | .v (.tuple _)=>K (.v undef)
  |_=>False
theorem VH{P:Program}[Glob P]{cfg:Nat→Nat}{c:CI}{rg:af}{σ:Store}{K:AV→Prop}(h:vQ P cfg c K rg σ):∃ x,K x∧QV P cfg c rg σ x:=by
 unfold vQ at h
 unfold QV bY
 cases hg:c.g with
 |none=>rw[hg]at h;obtain⟨x,hx,hv⟩:=M7 h;grind
 |some p=>
  obtain⟨u,want⟩:=p
  rw[hg]at h
  simp only at h ⊢
  split at h
  ·rename_i b he
   by_cases hb:b=want
   ·obtain⟨x,hx,hv⟩:=M7 (h.1 hb)
    grind
   ·have gT:b= !want:=by cases b<;>cases want<;>simp_all
    grind
  ·grind
  grind
def pM(P:Program)[Glob P](cfg:Nat→Nat):List CI→(K:af→Prop)→af→Store→Prop
 |[],K,rg,_=>K rg
 |c::l,K,rg,σ=>match c.g with
  |none=>aJ P cfg c.d rg σ (fun x=>pM P cfg l K (bj c.d x rg) σ) c.op
  |some (t,want)=>match lk rg t with
   | .v (.bool b)=>Gd b want (aJ P cfg c.d ((t,.v (.bool want))::rg) σ (fun x=>pM P cfg l K (bj c.d x ((t,.v (.bool want))::rg)) σ) c.op)
     (pM P cfg l K (bj c.d (.v undef) ((t,.v (.bool !want))::rg)) σ)
   | .v (.tuple _)=>pM P cfg l K (bj c.d (.v undef) rg) σ
   |_=>False
theorem VP{P:Program}[Glob P]{cfg:Nat→Nat}{c:CI}{l:List CI}{K:af→Prop}{rg:af}{σ:Store}(h:pM P cfg (c::l) K rg σ):
  ∃ ak,(∀ i,lk ak i=lk rg i)∧vQ P cfg c (fun x=>pM P cfg l K (bj c.d x ak) σ) ak σ:=by
 simp only[pM]at h
 split at h
 ·exact⟨rg,fun _=>rfl,by unfold vQ;grind⟩
 ·rename_i t want hg
  split at h
  ·rename_i b hb
   by_cases mQ:b=want
   ·subst mQ
    have e:lk ((t,AV.v (.bool b))::rg) t= .v (.bool b):=by simp[lk,YL]
    refine⟨_,xG hb,?_⟩
    unfold vQ
    rw[hg]
    simp only[e]
    exact⟨fun _=>h.l rfl,fun h'=>by grind⟩
   ·have gT:b= !want:=by cases b<;>cases want<;>simp_all
    subst gT
    have e:lk ((t,AV.v (.bool !want))::rg) t= .v (.bool !want):=by simp[lk,YL]
    refine⟨_,xG hb,?_⟩
    unfold vQ
    rw[hg]
    simp only[e]
    exact⟨fun h'=>absurd h' mQ,fun _=>h.r rfl⟩
  ·exact⟨rg,fun _=>rfl,by unfold vQ;grind⟩
  grind
theorem sk{rg ak:af}(h:∀ i,lk ak i=lk rg i)(d:Option Nat)(x:AV)(i:Nat):lk (bj d x ak) i=lk (bj d x rg) i:=by
 cases d with
 |none=>exact h i
 |some d=>simp only[bj,lk];rw[h]
theorem SN(i j:Nat)(x:AV)(r:af):lk ((i,x)::r) j=if i=j then x else lk r j:=by
 simp only[lk]
 simp_all
def dH:List CI→List AV→af→af
 |c::l,x::xs,rg=>dH l xs (bj c.d x rg)
 |_,_,rg=>rg
theorem VN{P:Program}[Glob P]{cfg:Nat→Nat}{σ:Store}{K:af→Prop}:∀ (l:List CI) (rg ef:af),(∀ i,lk rg i=lk ef i)→pM P cfg l K rg σ→
  ∃ xs:List AV,xs.length=l.length∧(∃ ga,K ga∧∀ i,lk ga i=lk (dH l xs ef) i)∧∀ i (h:i<l.length) (h':i<xs.length),QV P cfg l[i] (dH (l.take i) (xs.take i) ef) σ xs[i]
 |[],rg,ef,he,h=>⟨[],rfl,⟨rg,h,he⟩,fun i h=>absurd h (by simp)⟩
 |c::l,rg,ef,he,h=>by
  obtain⟨ak,jA,hv⟩:=VP h
  obtain⟨x,hx,hq⟩:=VH hv
  have Qz:∀ i,lk ak i=lk ef i:=fun i=>(jA i).trans (he i)
  obtain⟨xs,h1,h2,h3⟩:=VN l _ (bj c.d x ef) (sk Qz c.d x) hx
  refine⟨x::xs,by simp[h1],h2,fun i hi cK=> ?_⟩
  cases i with
  |zero=>exact wj (fun t _=>Qz t) hq
  |succ i=>simpa[dH]using h3 i (by grind) (by grind)
theorem alJ{P:Program}[Glob P]{cfg:Nat→Nat}{d:Option Nat}{rg:af}{σ:Store}{K:AV→Prop}{op:aw}(h4:op.cls=4)(h:aJ P cfg d rg σ K op):False:=by
 cases op<;>simp only[aw.cls,reduceCtorEq,Nat.reduceEqDiff,Nat.zero_ne_add_one]at h4<;>exact h
theorem VO{P:Program}[Glob P]{cfg:Nat→Nat}{σ:Store}{K:af→Prop}:∀ (l:List CI) (rg:af),(∀ c∈l,c.op.cls≤1∨(c.op.cls=4∧c.g=none))→pM P cfg l K rg σ→∀ c∈l,c.op.cls≤1
 |[],_,_,_=>fun _ h=>by cases h
 |c::l,rg,hc,h=>by
  obtain⟨ak,_,hv⟩:=VP h
  obtain⟨x,hx,_⟩:=VH hv
  intro c' gU
  rcases ZT.1 gU with rfl|gU
  ·rcases hc c' (by simp)with h1|⟨h1,h2⟩
   ·exact h1
   ·exfalso
    unfold vQ at hv
    simp only[h2]at hv
    exact alJ h1 hv
  ·exact VO l _ (fun c h=>hc c (by simp[h])) hx c' gU
theorem xF:∀ (l:List CI) (xs:List AV) (rg:af) (t:Nat),(∀ c∈l,c.d≠some t)→lk (dH l xs rg) t=lk rg t
 |[],xs,rg,t,_=>rfl
 |c::l,[],rg,t,_=>rfl
 |c::l,x::xs,rg,t,h=>by
  simp only[dH]
  rw[xF l xs _ t (fun c' hc=>h c' (ZO _ hc))]
  have hc:=h c (by simp)
  cases hd:c.d with
  |none=>rfl
  |some d=>
   have:Nat.beq d t=false:=by rw[← X6,Nat.beq_eq];grind
   simp[bj,lk,this]
theorem CQ:∀ (l:List CI) (xs:List AV) (rg:af),(l.map (·.d)).Nodup→xs.length=l.length→∀ j (h:j<l.length) (h':j<xs.length) t,l[j].d=some t→lk (dH l xs rg) t=xs[j]
 |[],xs,rg,_,_,j,h,_,_,_=>absurd h (by simp)
 |c::l,[],rg,_,hl,_,_,_,_,_=>by grind
 |c::l,x::xs,rg,hn,hl,j,h,h',t,hd=>by
  simp only[ZE,YV]at hn
  simp only[dH]
  cases j with
  |zero=>
   simp at hd ⊢
   rw[xF l xs _ t (fun c' hc e=>hn.1 (by grind))]
   simp[bj,hd,lk,YL]
  |succ j=>exact CQ l xs _ hn.2 (by grind) j (by grind) (by grind) t (by grind)
theorem filter_lt{α:Type}(p q:α→Bool):∀ (l:List α),(∀ x∈l,q x=true→p x=true)→(∃ x∈l,p x=true∧q x=false)→(l.filter q).length+1≤(l.filter p).length
 |[],_,⟨x,hx,_⟩=>by grind
 |y::l,h,⟨x,hx,hp,hq⟩=>by
  have hle:∀ (l:List α),(∀ x∈l,q x=true→p x=true)→(l.filter q).length≤(l.filter p).length:=by
   intro l
   induction l with
   |nil=>simp
   |cons z l ih=>
    grind
  rcases ZT.1 hx with rfl|hx
  ·grind
  ·have ih:=filter_lt p q l (fun x hx=>h x (by simp[hx])) ⟨x,hx,hp,hq⟩
   grind
section
variable {P:Program}[Glob P]{M:Mem}{w0:Base}{w:World}{σ:Store}{rg:af}{a:Act}{cfg:Nat→Nat}{N:Nat}
theorem D3{ops:Array Oper}:∀ (os:List Oper) (l:List CI),jb P N ops os=some l→l.length=os.length∧∀ i (h:i<os.length) (h':i<l.length),rC P N ops os[i]=some l[i]
 |[],l,h=>by simp only[jb,Z1]at h;grind
 |o::os,l,h=>by
  simp only[jb]at h
  split at h
  ·obtain⟨l',h1,rfl⟩:=Z7.1 h
   obtain⟨h2,h3⟩:=D3 os l' h1
   grind
  grind
theorem ade{ops:Array Oper}{l:List CI}(h:rE ops l=true):∃ k,∃ hk:k<l.length,pC l 0=some k∧l[k].op.cls=4:=by
 unfold rE at h
 split at h
 ·cases h
 ·rename_i k e
  obtain⟨i,h1,h2,h3,_⟩:=LS _ _ e
  obtain rfl:k=i:=by omega
  exact⟨k,h1,e,h3⟩
theorem OX{ops:Array Oper}{l:List CI}(h:rD ops l=true∨rE ops l=true):∀ c∈l,c.op.cls≤1∨(c.op.cls=4∧c.g=none):=fun c hc=>by
 have key:c.d.isSome=true∧(c.op.cls.ble 1=true∨(c.op.cls.beq 4=true∧c.g.isNone=true)):=by
  rcases h with h|h
  ·unfold rD at h
   simp_all
  ·unfold rE at h
   split at h
   ·cases h
   ·simp only[Z6,ZB,YM]at h
    exact h.1.2 c hc
 simp_all
def DE(P:Program)[Glob P](cfg:Nat→Nat)(K:af→Prop)(l:List CI)(rg:af)(σ:Store):Prop:=
 ∃ xs:List AV,xs.length=l.length∧(∃ ga,K ga∧∀ i,lk ga i=lk (dH l xs rg) i)∧∀ i (h:i<l.length) (h':i<xs.length),QV P cfg l[i] (dH (l.take i) (xs.take i) rg) σ xs[i]
theorem yH{l:List CI}{Q:Exit→af→Store→Prop}(cfg:Nat→Nat)(h:(∀ c∈l,c.op.cls≤1∨(c.op.cls=4∧c.g=none))→DE P cfg (fun ak=>Q .normal ak σ) l rg σ∧∀ c∈l,c.op.cls≤1):SW P N (.dF l) Q rg σ:=by
 intro c hc M w0 a w hI hR hN hD
 obtain⟨id,ops,rfl,hl,bM,uH⟩:=fU hc
 obtain⟨hlen,zK⟩:=D3 ops.toList l hl
 have uI:l.length=ops.size:=by simpa using hlen
 obtain⟨⟨xs,dp,⟨ga,hK,hF⟩,hQV⟩,dz⟩:=h (OX bM)
 replace bM:rD ops l=true:=by
  rcases bM with bM|bM
  ·exact bM
  ·exfalso
   obtain⟨k,hk,_,h4⟩:=ade bM
   have:=dz _ (Zc hk)
   omega
 unfold rD at bM
 simp only[Yl,Xz]at bM
 simp only[Z6,ZN]at bM
 obtain⟨⟨hnd,_⟩,qk⟩:=bM
 rw[ZB]at qk
 have eU:∀ i (hi:i<l.length) (ho:i<ops.size),(∀ e∈ops[i].after,Region.binds .any e=true→e.on<i)∧∀ t∈l[i].reads,(∀ c∈l,c.d≠some t)∨∃ j,∃ hj:j<l.length,l[j].d=some t∧j<i∧∃ e∈ops[i].after,Region.binds .any e=true∧e.on=j:=by
  intro i hi ho
  have hm:((l[i],ops[i]),i)∈(l.zip ops.toList).zipIdx:=by
   rw[List.mem_zipIdx_iff_getElem?]
   simp[List.getElem?_zip_eq_some,hi,ho]
  have:=qk _ hm
  simp only[Z6]at this
  obtain⟨h1,h2⟩:=this
  have hb:∀ e∈ops[i].after,Region.binds .any e=true→e.on<i:=by
   intro e he lS
   have:=Zu.1 h1 e he
   simpa[lS]using this
  refine⟨hb,fun t ht=> ?_⟩
  have h3:=ZB.1 h2 t ht
  split at h3
  ·rename_i j hj
   right
   rw[Xq]at h3
   obtain⟨m,eT,h4⟩:=h3
   simp only[Z6,beq_iff_eq]at h4
   have jD:j<l.length∧(l.map (·.d))[j]? =some (some t):=by
    obtain⟨i',h5,h6⟩:=LV _ _ hj
    obtain rfl:j=i':=by omega
    exact⟨by have:=(ZK.1 h6).1;simpa using this,h6⟩
   obtain⟨rT,iU⟩:=jD
   refine⟨j,rT,by simpa[rT]using iU,?_,ops[i].after[m],X1 eT,h4.1,h4.2⟩
   rw[← h4.2]
   exact hb _ (X1 eT) h4.1
  ·rename_i hj
   left
   intro c hc e
   exact LU _ _ hj (by rw[← e];exact YE hc)
 let RG:=dH l xs rg
 have zx:∀ j (h:j<l.length) t,l[j].d=some t→lk RG t=xs[j]'(by omega):=fun j h t ht=>CQ l xs rg hnd dp j h (by omega) t ht
 have zy:∀ t,(∀ c∈l,c.d≠some t)→lk RG t=lk rg t:=fun t ht=>xF l xs rg t ht
 have hQ:∀ i (hi:i<l.length),QV P cfg l[i] RG σ (xs[i]'(by omega)):=by
  intro i hi
  refine wj (fun t ht=> ?_) (hQV i hi (by omega))
  rcases(eU i hi (by omega)).2 t ht with hn|⟨j,hj,da,iV,_⟩
  ·rw[zy t hn]
   exact xF _ _ _ _ (fun c hc=>hn c (Yh hc))
  ·rw[zx j hj t da]
   have e1:(l.take i)[j]'(by simp;omega)=l[j]:=by simp
   have e2:(xs.take i)[j]'(by simp;omega)=xs[j]'(by omega):=by simp
   rw[← e2]
   refine CQ (l.take i) (xs.take i) rg ?_ (by simp[dp]) j (by simp;omega) (by simp;omega) t (by rw[e1];exact da)
   rw[XU]
   exact hnd.sublist (List.take_sublist _ _)
 refine IL uH ?_
 have main:∀ (fuel:Nat) (listed:Array Bool) (a:Act) (w:World),listed.size=ops.size→((List.range ops.size).filter (fun i=> !listed.getD i true)).length≤fuel→
   (∃ M2,M.le M2∧Inv P M2 w0 σ w∧a.tmps.size=N∧a.defers=Glob.df P∧(∀ t,(∀ c∈l,c.d≠some t)→R M2 (lk rg t) (a.tmps.getD t undef))∧∀ j (h:j<l.length) t,listed.getD j true=true→l[j].d=some t→R M2 (xs[j]'(by omega)) (a.tmps.getD t undef))→
   wpAny P .any ops (jQ P M w0 N Q) fuel listed a w:=by
  intro fuel
  induction fuel with
  |zero=>
   rintro listed a w aY zH ⟨M2,g1,g2,g3,g4,g5,g6⟩
   have cO:∀ i,i<ops.size→listed.getD i true=true:=by
    intro i hi
    cases pb:listed.getD i true with
    |true=>rfl
    |false=>
     have:i∈(List.range ops.size).filter (fun i=> !listed.getD i true):=by simp only[Y5,YT,hi,pb,Xl,and_self]
     have:=List.length_pos_of_mem this
     omega
   refine⟨?_,M2,ga,σ,g1,g2,fun t=> ?_,g3,g4,hK⟩
   ·unfold Region.ready
    rw[Yb]
    intro i hi
    simp[cO i (by simpa using hi)]
   ·rw[hF]
    by_cases ht:∃ j,∃ h:j<l.length,l[j].d=some t
    ·obtain⟨j,hj,da⟩:=ht
     show R M2 (lk RG t) _
     rw[zx j hj t da]
     exact g6 j hj t (cO j (by omega)) da
    ·show R M2 (lk RG t) _
     rw[zy t (fun c hc e=>by
      obtain⟨j,hj,rfl⟩:=YQ.1 hc
      exact ht ⟨j,hj,e⟩)]
     exact g5 t (fun c hc e=>by
      obtain⟨j,hj,rfl⟩:=YQ.1 hc
      exact ht ⟨j,hj,e⟩)
  |succ fuel ih=>
   rintro listed a w aY zH ⟨M2,g1,g2,g3,g4,g5,g6⟩
   refine⟨fun hr=> ?_,fun i hi=> ?_⟩
   ·
    have cO:∀ i,i<ops.size→listed.getD i true=true:=by
     intro i
     induction i using Nat.strongRecOn with
     |_ i K3=>
      intro hi
      cases pb:listed.getD i true with
      |true=>rfl
      |false=>
       have:i∈Region.ready .any ops listed:=by
        unfold Region.ready
        rw[Y5]
        refine⟨by simpa using hi,?_⟩
        simp only[pb,Xl,Bool.true_and,Zy hi,ZD,Zk]
        rw[Zu]
        intro e he
        cases lS:Region.binds .any e with
        |false=>rfl
        |true=>
         have ar:=(eU i (by omega) hi).1 e he lS
         have:=K3 e.on ar (by omega)
         have h2:listed.getD e.on false=true:=by
          rw[ZP]at this ⊢
          rw[Zy (by omega)]at this ⊢
          exact this
         simp[h2]
       rw[hr]at this
       cases this
    refine⟨M2,ga,σ,g1,g2,fun t=> ?_,g3,g4,hK⟩
    rw[hF]
    by_cases ht:∃ j,∃ h:j<l.length,l[j].d=some t
    ·obtain⟨j,hj,da⟩:=ht
     show R M2 (lk RG t) _
     rw[zx j hj t da]
     exact g6 j hj t (cO j (by omega)) da
    ·show R M2 (lk RG t) _
     rw[zy t (fun c hc e=>by
      obtain⟨j,hj,rfl⟩:=YQ.1 hc
      exact ht ⟨j,hj,e⟩)]
     exact g5 t (fun c hc e=>by
      obtain⟨j,hj,rfl⟩:=YQ.1 hc
      exact ht ⟨j,hj,e⟩)
   ·unfold Region.ready at hi
    rw[Y5]at hi
    obtain⟨rR,kH⟩:=hi
    have gn:i<ops.size:=by simpa using rR
    simp only[Z6,YK,Zy gn,ZD,Zk]at kH
    obtain⟨iI,zI⟩:=kH
    have cD:i<l.length:=by omega
    have nO:rC P N ops ops[i]=some l[i]:=by have:=zK i (by simpa using gn) cD;simpa using this
    obtain⟨kG,ar⟩:=Bn nO
    let ak:=Sx.eR l[i].reads RG
    have oW:ct M2 ak a:=by
     intro t
     by_cases ht:t∈l[i].reads
     ·rw[Fv ht]
      rcases(eU i cD gn).2 t ht with hn|⟨j,hj,da,iV,e,he,lS,J8⟩
      ·rw[zy t hn];exact g5 t hn
      ·rw[zx j hj t da]
       refine g6 j hj t ?_ da
       have:=Zu.1 zI e he
       simp only[lS,Bool.not_true,Bool.false_or,J8]at this
       rw[ZP]at this ⊢
       rw[Zy (by omega)]at this ⊢
       exact this
     ·rw[SP ht];exact .any _
    have hq:QV P cfg l[i] ak σ (xs[i]'(by omega)):=wj (fun t ht=>(Fv ht).symm) (hQ i cD)
    unfold wpOp
    simp only[Zy gn]
    refine wU (K:=fun y σ'=>y=xs[i]'(by omega)∧σ'=σ) (E:=fun _ _=>False) nO hq g2 oW ⟨?_,fun _ _ _ _ _ _ h=>h.elim⟩
    rintro M3 x σ' v w' hM bw hx ⟨rfl,rfl⟩
    refine ih _ _ _ (by simp[aY]) ?_ ⟨M3,g1.trans hM,bw,by rw[Act.size_put];exact g3,by rw[Act.Bt];exact g4,fun t ht=> ?_,fun j hj t kI da=> ?_⟩
    ·have:=filter_lt (fun i=> !listed.getD i true) (fun k=> !(listed.setIfInBounds i true).getD k true) (List.range ops.size) (fun k _ hk=>by
      simp only[YK]at hk ⊢
      rw[ZP,Zb]at hk
      split at hk
      ·split at hk<;>simp at hk
      ·rw[ZP];exact hk) ⟨i,rR,by simpa using iI,by
       simp only[Bool.not_eq_false']
       rw[ZP,Zb]
       simp[aY,gn]⟩
     omega
    ·have aH:ops[i].dst≠some t:=by rw[← kG];exact ht _ (Zc cD)
     have:=(g5 t ht).mono hM
     have e:(a.put ops[i].dst v).tmps.getD t undef=a.tmps.getD t undef:=by
      cases hd:ops[i].dst with
      |none=>rfl
      |some u=>
       have xt:u≠t:=fun e=>aH (by rw[hd,e])
       simp[Act.put,YP xt]
     rw[e];exact this
    ·by_cases gZ:j=i
     ·subst gZ
      have hd:ops[j].dst=some t:=by rw[← kG];exact da
      have KP:t<a.tmps.size:=by rw[g3];exact ar t da
      have e:(a.put ops[j].dst v).tmps.getD t undef=v:=by simp[hd,Act.put,KP]
      rw[e];exact hx
     ·have EX:listed.getD j true=true:=by
       rw[ZP,Zb,Z5 (fun e=>gZ e.symm)]at kI
       rw[ZP];exact kI
      have:=(g6 j hj t EX da).mono hM
      have e:(a.put ops[i].dst v).tmps.getD t undef=a.tmps.getD t undef:=by
       cases hd:ops[i].dst with
       |none=>rfl
       |some u=>
        have xt:u≠t:=fun e=>by
         subst e
         have h1:l[i].d=some u:=kG.trans hd
         have pe:=Yw.1 hnd
         rcases XG i j with h|h|h
         ·exact pe i j (by simpa using cD) (by simpa using hj) h (by simp[h1,da])
         ·exact gZ h.symm
         ·exact pe j i (by simpa using hj) (by simpa using cD) h (by simp[h1,da])
        simp[Act.put,YP xt]
      rw[e];exact this
 refine main ops.size _ a _ (by simp) ?_ ⟨M,Mem.le.refl _,hI.fG,hN,hD,fun t _=>hR t,fun j hj t kI _=> ?_⟩
 ·exact ZG (Xt _ _) (by simp)
 ·exfalso
  have xf:j<ops.size:=by omega
  simp[xf]at kI
 where
 Fv {l:List Nat} {rg:af} {t:Nat} (h:t∈l):lk (Sx.eR l rg) t=lk rg t:=by
  induction l with
  |nil=>cases h
  |cons u l ih=>
   simp only[Sx.eR,lk]
   cases hb:Nat.beq u t with
   |true=>rw[Z2 hb];rfl
   |false=>
    rcases ZT.1 h with rfl|h
    ·simp[YL]at hb
    ·exact ih h
 SP {l:List Nat} {rg:af} {t:Nat} (h:t∉l):lk (Sx.eR l rg) t= .any:=by
  induction l with
  |nil=>rfl
  |cons u l ih=>
   simp only[Sx.eR,lk]
   cases hb:Nat.beq u t with
   |true=>exact absurd (ZT.2 (.inl (Z2 hb).symm)) h
   |false=>exact ih (fun hm=>h (ZO _ hm))
theorem WT{l:List CI}{Q:Exit→af→Store→Prop}(cfg:Nat→Nat)(h:pM P cfg l (fun ak=>Q .normal ak σ) rg σ):SW P N (.dF l) Q rg σ:=
 yH cfg fun hc=>⟨VN l rg rg (fun _=>rfl) h,VO l rg hc h⟩
end
end Go.Sx
