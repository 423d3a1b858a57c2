/-
  The layer Sx, eleventh part: a region whose order is open and whose operations only compute.
-/
import Derived.Test.YtbihckigennlhaaGreatDoorSxFn
set_option linter.unusedVariables false
set_option linter.unusedSimpArgs false
set_option linter.unusedSectionVars false
namespace Go.Sx
open Go.RowKit
theorem qs{rg rg':ae}{x:Operand}(h:∀ t∈tmpsOf [x],lk rg t=lk rg' t):ev rg x=ev rg' x:=by
 cases x<;>simp_all [ev,tmpsOf]
theorem pS(x:Operand)(l:List Operand):tmpsOf (x::l)=tmpsOf [x]++tmpsOf l:=by cases x<;>rfl
theorem GJ(l l':List Operand):tmpsOf (l++l')=tmpsOf l++tmpsOf l':=by
 induction l with
 |nil=>rfl
 |cons x l ih=>rw[ZD,pS,pS x l,ih,ZA]
theorem jz{rg rg':ae}:∀ (l:List Operand),(∀ t∈tmpsOf l,lk rg t=lk rg' t)→aU rg l=aU rg' l
 |[],_=>rfl
 |x::l,h=>by
  rw[pS]at h
  simp only[aU]
  rw[qs fun t ht=>h t (Zy _ ht),jz l fun t ht=>h t (Zj _ ht)]
theorem JY{rg rg':ae}:∀ (l:List (Nat×Nat×Operand)),(∀ t∈tmpsOf (l.map (·.2.2)),lk rg t=lk rg' t)→oY rg l=oY rg' l
 |[],_=>rfl
 |(o,n,x)::l,h=>by
  rw[ZH,pS]at h
  simp only[oY]
  rw[qs fun t ht=>h t (Zy _ ht),JY l fun t ht=>h t (Zj _ ht)]
theorem pV{P:Program}[Glob P]{cfg:Nat→Nat}{d:Option Nat}{rg rg':ae}{σ:Store}{K:AV→Store→Prop}{E:List PanicEntry→Store→Prop}{op:aw}(h:∀ t∈tmpsOf op.opers,lk rg t=lk rg' t):
  aj P cfg d rg σ K E op=aj P cfg d rg' σ K E op:=by
 have e1:∀ x,x∈op.opers→ev rg x=ev rg' x:=fun x hx=>qs fun t ht=>h t (by
  obtain⟨l1,l2,e⟩:=List.append_of_mem hx
  rw[e,GJ,pS]
  grind)
 cases op with
 |build z parts=>simp only[aj];rw[JY parts h]
 |aZ t ag parts=>simp only[aj];rw[jz parts h]
 |call f args=>simp only[aj];rw[jz args h]
 |dA f args=>
  have hf:ev rg f=ev rg' f:=e1 f (by simp[aw.opers])
  have ha:aU rg args=aU rg' args:=jz args fun t ht=>h t (by simp only[aw.opers];rw[pS];grind)
  simp only[aj];grind
 |gi fn first captured=>
  have hf:aU rg first=aU rg' first:=jz first fun t ht=>h t (by simp only[aw.opers];rw[GJ];grind)
  have ha:aU rg captured=aU rg' captured:=jz captured fun t ht=>h t (by simp only[aw.opers];rw[GJ];grind)
  simp only[aj];grind
 |slice ag x lo hi=>
  have hx:ev rg x=ev rg' x:=e1 x (by simp[aw.opers])
  have hl:lo.map (ev rg)=lo.map (ev rg'):=by cases lo with
   |none=>rfl
   |some y=>simp only[Zu];rw[e1 y (by simp[aw.opers])]
  have hh:hi.map (ev rg)=hi.map (ev rg'):=by cases hi with
   |none=>rfl
   |some y=>simp only[Zu];rw[e1 y (by simp[aw.opers])]
  simp only[aj];grind
 |len s x=>cases s<;>(simp only[aj];rw[e1 x (by simp[aw.opers])])
 |alloc t z=>rfl
 |cp op ty ti args=>simp only[aj];rw[jz args h]
 |exts op ty ti args=>simp only[aj];rw[jz args h]
 |pick c x y=>simp only[aj];rw[e1 c (by simp[aw.opers]),e1 x (by simp[aw.opers]),e1 y (by simp[aw.opers])]
 |store n x y=>simp only[aj];rw[e1 x (by simp[aw.opers]),e1 y (by simp[aw.opers])]
 |bin op x y=>simp only[aj];rw[e1 x (by simp[aw.opers]),e1 y (by simp[aw.opers])]
 |gZ n k x y=>simp only[aj];rw[e1 x (by simp[aw.opers]),e1 y (by simp[aw.opers])]
 |eqs n k x y=>simp only[aj];rw[e1 x (by simp[aw.opers]),e1 y (by simp[aw.opers])]
 |eH n x y=>simp only[aj];rw[e1 x (by simp[aw.opers]),e1 y (by simp[aw.opers])]
 |iH n k x y=>simp only[aj];rw[e1 x (by simp[aw.opers]),e1 y (by simp[aw.opers])]
 |idxs x y=>simp only[aj];rw[e1 x (by simp[aw.opers]),e1 y (by simp[aw.opers])]
 |append t n k z x y=>simp only[aj];rw[e1 x (by simp[aw.opers]),e1 y (by simp[aw.opers])]
 |max2 x y=>simp only[aj];rw[e1 x (by simp[aw.opers]),e1 y (by simp[aw.opers])]
 |min2 x y=>simp only[aj];rw[e1 x (by simp[aw.opers]),e1 y (by simp[aw.opers])]
 |mv x=>simp only[aj];rw[e1 x (by simp[aw.opers])]
 |box t x=>simp only[aj];rw[e1 x (by simp[aw.opers])]
 |load g n x=>simp only[aj];rw[e1 x (by simp[aw.opers])]
 |j6 x=>simp only[aj];rw[e1 x (by simp[aw.opers])]
 |un op x=>simp only[aj];rw[e1 x (by simp[aw.opers])]
 |ly k x=>simp only[aj];rw[e1 x (by simp[aw.opers])]
 |oU x=>simp only[aj];rw[e1 x (by simp[aw.opers])]
 |lT t x=>simp only[aj];rw[e1 x (by simp[aw.opers])]
 |panic x=>simp only[aj];rw[e1 x (by simp[aw.opers])]
 |iS n x=>simp only[aj];rw[e1 x (by simp[aw.opers])]
 |field g o n x=>simp only[aj];rw[e1 x (by simp[aw.opers])]
 |extract x i=>simp only[aj];rw[e1 x (by simp[aw.opers])]
def QV(P:Program)[Glob P](cfg:Nat→Nat)(c:CI)(rg:ae)(σ:Store)(x:AV):Prop:=di P cfg c (fun y σ'=>y=x∧σ'=σ) (fun _ _=>False) rg σ
theorem r4{P:Program}[Glob P]{cfg:Nat→Nat}{c:CI}{rg rg':ae}{σ:Store}{x:AV}(h:∀ t∈c.reads,lk rg t=lk rg' t)(hq:QV P cfg c rg σ x):QV P cfg c rg' σ x:=by
 unfold QV di at *
 have h1:∀ K E,aj P cfg c.d rg σ K E c.op=aj P cfg c.d rg' σ K E c.op:=fun K E=>pV fun t ht=>h t (Zy _ ht)
 cases hg:c.g with
 |none=>grind
 |some p=>
  obtain⟨u,want⟩:=p
  have hu:lk rg u=lk rg' u:=h u (Zj _ (by simp[hg]))
  grind
def w8(P:Program)[Glob P](f:FuncId)(as:List AV)(K:AV→Prop):Prop:=∃ r,Pure P f as r∧K r
theorem qcall_congr{P:Program}[Glob P]{f:FuncId}{as as':List AV}{K:AV→Prop}(h:as=as'):w8 P f as K=w8 P f as' K:=by rw[h]
def aG(P:Program)[Glob P](cfg:Nat→Nat)(d:Option Nat)(rg:ae)(σ:Store)(K:AV→Prop):aw→Prop
 | .box .. | .alloc .. | .store .. | .append .. | .exts .. | .panic .. =>False
 | .cp op ty ti args=>∃ r,OpP P op ty ti args (aU rg args) r∧K r
 | .dA f args=>match ev rg f with
  | .v (.func (.func f) a c)=>gV P f=true∧w8 P f (a.toList.map .v++aU rg args++c.toList.map .v) K
  | .cl f a c=>gV P f=true∧w8 P f (a++aU rg args++c) K
  |_=>False
 | .call f args=>w8 P f (aU rg args) K
 | .aZ _ ag parts=>match rowsOf ag (aU rg parts)with
  |some rows=>rows.length≤1000000∧match cfg (d.getD 0)with
   |0=>K (.sl true ag rows)
   |3=>K (.fl ag rows)
   |_=>False
  |none=>False
 | .len true x=>match ev rg x with
  | .v (.string s)=>K (.v (.int .i64 s.size))
  |_=>False
 | .len false x=>match ev rg x with
  | .v (.slice _ n _)=>K (.v (.int .i64 n))
  | .ms _ _ _ n _=>K (.v (.int .i64 n))
  | .sl _ _ rows=>K (.v (.int .i64 rows.length))
  | .own _ _ _ _ _ rows=>K (.v (.int .i64 rows.length))
  |_=>False
 |op=>aj P cfg d rg σ (fun x _=>K x) (fun _ _=>False) op
theorem PG{op:BinOp}{a b:Value}{K:Value→Prop}(h:mW op a b K):∃ x,K x∧∀ K':Value→Prop,K' x→mW op a b K':=by
 unfold mW at h
 split at h
 ·cases op<;>simp only at h<;>simp only[mW]
  all_goals grind
 ·cases op<;>simp only at h<;>simp only[mW]
  case add=>grind
  case eql=>grind
  case neq=>grind
  case lss=>grind
  case leq=>grind
  case gtr=>grind
  grind
 grind
theorem G3{P:Program}[Glob P]{cfg:Nat→Nat}{d:Option Nat}{rg:ae}{σ:Store}{K:AV→Prop}{op:aw}(h:aG P cfg d rg σ K op):
  ∃ x,K x∧∀ (K':AV→Store→Prop) (E':List PanicEntry→Store→Prop),K' x σ→aj P cfg d rg σ K' E' op:=by
 cases op with
 |box t x=>exact h.elim
 |alloc t z=>exact h.elim
 |store n x y=>exact h.elim
 |append t n k z x y=>exact h.elim
 |exts op ty ti args=>exact h.elim
 |panic x=>exact h.elim
 |cp op ty ti args=>obtain⟨r,hp,hk⟩:=h;exact⟨r,hk,fun K' E' h=>(hp.sp σ).mono fun x σ' ⟨e1,e2⟩=>by grind⟩
 |call f args=>obtain⟨r,hp,hk⟩:=h;exact⟨r,hk,fun K' E' h=>uO hp h⟩
 |dA f args=>
  simp only[aG]at h
  simp only[aj]
  split at h
  ·rename_i g b c he
   obtain⟨bJ,r,hp,hk⟩:=h
   (try rw[he])
   exact⟨r,hk,fun K' E' h=>⟨bJ,uO hp h⟩⟩
  ·rename_i g b c he
   obtain⟨bJ,r,hp,hk⟩:=h
   (try rw[he])
   exact⟨r,hk,fun K' E' h=>⟨bJ,uO hp h⟩⟩
  grind
 |aZ t ag parts=>
  simp only[aG]at h
  simp only[aj]
  split at h
  ·rename_i rows he
   (try rw[he])
   obtain⟨hn,h⟩:=h
   split at h
   ·rename_i e;exact⟨_,h,fun K' E' hk=>⟨hn,by simp only[e];exact hk⟩⟩
   ·rename_i e;exact⟨_,h,fun K' E' hk=>⟨hn,by simp only[e];exact hk⟩⟩
   ·exact h.elim
  ·exact h.elim
 |len s x=>
  cases s<;>simp only[aG]at h<;>simp only[aj]
  ·split at h
   ·rename_i b n c he;(try rw[he]);exact⟨_,h,fun K' E' hk=>hk⟩
   ·rename_i tg b o n c he;(try rw[he]);exact⟨_,h,fun K' E' hk=>hk⟩
   ·rename_i nn ez rows he;(try rw[he]);exact⟨_,h,fun K' E' hk _=>hk⟩
   ·rename_i ez tg b u c rows he;(try rw[he]);exact⟨_,h,fun K' E' hk _=>hk⟩
   ·exact h.elim
  ·split at h
   ·rename_i s he;(try rw[he]);exact⟨_,h,fun K' E' hk=>hk⟩
   ·exact h.elim
 |mv x=>exact⟨_,h,fun K' E' hk=>hk⟩
 |lT t x=>exact⟨_,h,fun K' E' hk=>hk⟩
 |pick c x y=>
  simp only[aG,aj]at h
  simp only[aj]
  split at h
  ·rename_i t he;(try rw[he]);exact⟨_,h,fun K' E' hk=>hk⟩
  ·exact h.elim
 |build z parts=>
  simp only[aG,aj]at h
  simp only[aj]
  split at h
  ·rename_i t he;(try rw[he]);exact⟨_,h,fun K' E' hk=>hk⟩
  ·exact h.elim
 |load g n x=>
  simp only[aG,aj]at h
  simp only[aj]
  split at h
  ·rename_i tg b o he
   (try rw[he])
   split at h
   ·rename_i b' l hb
    obtain⟨rfl,h⟩:=h
    (try simp only[hb])
    cases g with
    |true=>simp only[Y7]at h ⊢;exact⟨_,h.2,fun K' E' hk=>⟨trivial,h.1,hk⟩⟩
    |false=>
     simp only[ZS,Zt]at h ⊢
     split at h
     ·rename_i y hy;(try rw[hy]);exact⟨_,h,fun K' E' hk=>⟨trivial,hk⟩⟩
     ·exact h.elim
   ·exact h.elim
  ·rename_i l he
   (try rw[he])
   cases g with
   |true=>simp only[Y7]at h ⊢;exact⟨_,h.2,fun K' E' hk=>⟨h.1,hk⟩⟩
   |false=>
    simp only[ZS,Zt]at h ⊢
    split at h
    ·rename_i y hy;(try rw[hy]);exact⟨_,h,fun K' E' hk=>hk⟩
    ·exact h.elim
  ·rename_i gv he
   (try rw[he])
   split at h
   ·rename_i l hl
    (try simp only[hl])
    cases g with
    |true=>simp only[Y7]at h ⊢;exact⟨_,h.2,fun K' E' hk=>⟨h.1,hk⟩⟩
    |false=>
     simp only[ZS,Zt]at h ⊢
     split at h
     ·rename_i y hy;(try rw[hy]);exact⟨_,h,fun K' E' hk=>hk⟩
     ·exact h.elim
   ·exact h.elim
  ·exact h.elim
 |j6 x=>
  simp only[aG,aj]at h
  simp only[aj]
  split at h<;>first|exact h.elim|(rename_i he;(try rw[he]);exact⟨_,h,fun K' E' hk=>hk⟩)
 |bin op x y=>
  simp only[aG,aj]at h
  simp only[aj]
  split at h
  ·rename_i u v hu hv
   (try rw[hu,hv])
   obtain⟨z,hz,ob⟩:=PG h
   exact⟨.v z,hz,fun K' E' hk=>ob _ hk⟩
  ·exact h.elim
 |gZ n k x y=>
  simp only[aG,aj]at h
  simp only[aj]
  split at h
  ·rename_i t he;(try rw[he]);exact⟨_,h,fun K' E' hk=>hk⟩
  ·exact h.elim
 |eqs n k x y=>
  simp only[aG,aj]at h
  simp only[aj]
  split at h
  ·rename_i xs ys h1 h2
   (try rw[h1,h2])
   split at h
   ·rename_i t he;(try simp only[he]);exact⟨_,h,fun K' E' hk=>hk⟩
   ·exact h.elim
  ·exact h.elim
 |un op x=>
  simp only[aG,aj]at h
  simp only[aj]
  split at h
  ·rename_i u hu
   (try rw[hu])
   split at h
   ·rename_i t he;(try simp only[he]);exact⟨_,h,fun K' E' hk=>hk⟩
   ·exact h.elim
  ·exact h.elim
 |ly k x=>
  simp only[aG,aj]at h
  simp only[aj]
  split at h
  ·rename_i k' n he;(try rw[he]);exact⟨_,h,fun K' E' hk=>hk⟩
  ·exact h.elim
 |oU x=>
  simp only[aG,aj]at h
  simp only[aj]
  split at h
  ·rename_i s he;(try rw[he]);exact⟨_,h,fun K' E' hk=>hk⟩
  ·exact h.elim
 |gi fn first captured=>
  simp only[aG,aj]at h
  simp only[aj]
  split at h
  ·rename_i u v h1 h2;(try rw[h1,h2]);exact⟨_,h,fun K' E' hk=>hk⟩
  ·split at h
   ·exact⟨_,h,fun K' E' hk=>hk⟩
   ·exact h.elim
 |slice ag x lo hi=>
  simp only[aG,aj]at h
  simp only[aj]
  split at h
  ·rename_i bW dU h1 h2
   (try rw[h1,h2])
   split at h
   ·rename_i nn e rows he;(try simp only[he]);exact⟨_,h.2.2.2.2,fun K' E' hk=>⟨h.1,h.2.1,h.2.2.1,h.2.2.2.1,hk⟩⟩
   ·rename_i e tg b u c rows he;(try simp only[he]);exact⟨_,h.2.2.2.2,fun K' E' hk=>⟨h.1,h.2.1,h.2.2.1,h.2.2.2.1,hk⟩⟩
   ·rename_i he;(try simp only[he]);exact⟨_,h.2.2,fun K' E' hk=>⟨h.1,h.2.1,hk⟩⟩
   ·exact h.elim
  ·exact h.elim
 |iS off x=>
  simp only[aG,aj]at h
  simp only[aj]
  split at h<;>first|exact h.elim|(rename_i he;(try rw[he]);exact⟨_,h,fun K' E' hk=>hk⟩)
 |field g o n x=>
  simp only[aG,aj]at h
  simp only[aj]
  split at h
  ·rename_i l hl
   (try rw[hl])
   obtain⟨aH,h⟩:=h
   cases g with
   |true=>simp only[Y7]at h ⊢;exact⟨_,h,fun K' E' hk=>⟨aH,hk⟩⟩
   |false=>
    simp only[ZS,Zt]at h ⊢
    split at h
    ·rename_i y hy;(try rw[hy]);exact⟨_,h,fun K' E' hk=>⟨aH,hk⟩⟩
    ·exact h.elim
  ·exact h.elim
 |eH ag x i=>
  simp only[aG,aj]at h
  simp only[aj]
  split at h
  ·rename_i k j hi
   (try rw[hi])
   split at h
   ·rename_i nn e rows he;(try simp only[he]);exact⟨_,h.2.2.2,fun K' E' hk=>⟨h.1,h.2.1,h.2.2.1,hk⟩⟩
   ·rename_i e tg b u c rows he;(try simp only[he]);exact⟨_,h.2.2.2,fun K' E' hk=>⟨h.1,h.2.1,h.2.2.1,hk⟩⟩
   ·rename_i tg b o n c he;(try simp only[he]);exact⟨_,h.2.2,fun K' E' hk=>⟨h.1,h.2.1,hk⟩⟩
   ·exact h.elim
  ·exact h.elim
 |iH n ag x i=>
  simp only[aG,aj]at h
  simp only[aj]
  split at h
  ·rename_i k j hi
   (try rw[hi])
   split at h
   ·rename_i tg b o he;(try simp only[he]);exact⟨_,h.2.2,fun K' E' hk=>⟨h.1,h.2.1,hk⟩⟩
   ·rename_i l he;(try simp only[he]);exact⟨_,h.2.2,fun K' E' hk=>⟨h.1,h.2.1,hk⟩⟩
   ·rename_i g o he;(try simp only[he]);obtain⟨l,ha,h0,h1,h2,h3⟩:=h;exact⟨_,h3,fun K' E' hk=>⟨l,ha,h0,h1,h2,hk⟩⟩
   ·exact h.elim
  ·exact h.elim
 |idxs x i=>
  simp only[aG,aj]at h
  simp only[aj]
  split at h
  ·rename_i k j s h1 h2
   (try rw[h1,h2])
   obtain⟨aH,h⟩:=h
   exact⟨_,h,fun K' E' hk=>⟨aH,hk⟩⟩
  ·exact h.elim
 |extract x i=>
  simp only[aG,aj]at h
  simp only[aj]
  split at h
  ·rename_i xs he
   (try rw[he])
   split at h
   ·rename_i y hy;(try simp only[hy]);exact⟨_,h,fun K' E' hk=>hk⟩
   ·exact h.elim
  ·rename_i xs he
   (try rw[he])
   split at h
   ·rename_i y hy;(try simp only[hy]);exact⟨_,h,fun K' E' hk=>hk⟩
   ·exact h.elim
  ·exact h.elim
 |max2 x y=>
  simp only[aG,aj]at h
  simp only[aj]
  split at h
  ·rename_i u v h1 h2
   (try rw[h1,h2])
   split at h
   ·rename_i t he;(try simp only[he]);exact⟨_,h,fun K' E' hk=>hk⟩
   ·exact h.elim
  ·exact h.elim
 |min2 x y=>
  simp only[aG,aj]at h
  simp only[aj]
  split at h
  ·rename_i u v h1 h2
   (try rw[h1,h2])
   split at h
   ·rename_i t he;(try simp only[he]);exact⟨_,h,fun K' E' hk=>hk⟩
   ·exact h.elim
  ·exact h.elim
def rJ(P:Program)[Glob P](cfg:Nat→Nat)(c:CI)(K:AV→Prop)(rg:ae)(σ:Store):Prop:=
 match c.g with
 |none=>aG P cfg c.d rg σ K c.op
 |some (t,want)=>match lk rg t with
  | .v (.bool b)=>(b=want→aG P cfg c.d rg σ K c.op)∧(b= !want→K (.v undef))
  | .v (.tuple _)=>K (.v undef)
  |_=>False
theorem PH{P:Program}[Glob P]{cfg:Nat→Nat}{c:CI}{rg:ae}{σ:Store}{K:AV→Prop}(h:rJ P cfg c K rg σ):∃ x,K x∧QV P cfg c rg σ x:=by
 unfold rJ at h
 unfold QV di
 cases hg:c.g with
 |none=>rw[hg]at h;obtain⟨x,hx,hv⟩:=G3 h;grind
 |some p=>
  obtain⟨u,want⟩:=p
  rw[hg]at h
  simp only at h ⊢
  split at h
  ·rename_i b he
   by_cases hb:b=want
   ·obtain⟨x,hx,hv⟩:=G3 (h.1 hb)
    grind
   ·have gr:b= !want:=by cases b<;>cases want<;>simp_all
    grind
  ·grind
  grind
def mX(P:Program)[Glob P](cfg:Nat→Nat):List CI→(K:ae→Prop)→ae→Store→Prop
 |[],K,rg,_=>K rg
 |c::l,K,rg,σ=>match c.g with
  |none=>aG P cfg c.d rg σ (fun x=>mX P cfg l K (bM c.d x rg) σ) c.op
  |some (t,want)=>match lk rg t with
   | .v (.bool b)=>Gd b want (aG P cfg c.d ((t,.v (.bool want))::rg) σ (fun x=>mX P cfg l K (bM c.d x ((t,.v (.bool want))::rg)) σ) c.op)
     (mX P cfg l K (bM c.d (.v undef) ((t,.v (.bool !want))::rg)) σ)
   | .v (.tuple _)=>mX P cfg l K (bM c.d (.v undef) rg) σ
   |_=>False
theorem PN{P:Program}[Glob P]{cfg:Nat→Nat}{c:CI}{l:List CI}{K:ae→Prop}{rg:ae}{σ:Store}(h:mX P cfg (c::l) K rg σ):
  ∃ rg',(∀ i,lk rg' i=lk rg i)∧rJ P cfg c (fun x=>mX P cfg l K (bM c.d x rg') σ) rg' σ:=by
 simp only[mX]at h
 split at h
 ·exact⟨rg,fun _=>rfl,by unfold rJ;grind⟩
 ·rename_i t want hg
  split at h
  ·rename_i b hb
   by_cases qD:b=want
   ·subst qD
    have e:lk ((t,AV.v (.bool b))::rg) t= .v (.bool b):=by simp[lk,YJ]
    refine⟨_,Bz hb,?_⟩
    unfold rJ
    rw[hg]
    simp only[e]
    exact⟨fun _=>h.l rfl,fun h'=>by grind⟩
   ·have gr:b= !want:=by cases b<;>cases want<;>simp_all
    subst gr
    have e:lk ((t,AV.v (.bool !want))::rg) t= .v (.bool !want):=by simp[lk,YJ]
    refine⟨_,Bz hb,?_⟩
    unfold rJ
    rw[hg]
    simp only[e]
    exact⟨fun h'=>absurd h' qD,fun _=>h.r rfl⟩
  ·exact⟨rg,fun _=>rfl,by unfold rJ;grind⟩
  grind
theorem vL{rg rg':ae}(h:∀ i,lk rg' i=lk rg i)(d:Option Nat)(x:AV)(i:Nat):lk (bM d x rg') i=lk (bM d x rg) i:=by
 cases d with
 |none=>exact h i
 |some d=>simp only[bM,lk];rw[h]
theorem MN(i j:Nat)(x:AV)(r:ae):lk ((i,x)::r) j=if i=j then x else lk r j:=by
 simp only[lk]
 simp_all
def db:List CI→List AV→ae→ae
 |c::l,x::xs,rg=>db l xs (bM c.d x rg)
 |_,_,rg=>rg
theorem PK{P:Program}[Glob P]{cfg:Nat→Nat}{σ:Store}{K:ae→Prop}:∀ (l:List CI) (rg fj:ae),(∀ i,lk rg i=lk fj i)→mX P cfg l K rg σ→
  ∃ xs:List AV,xs.length=l.length∧(∃ fG,K fG∧∀ i,lk fG i=lk (db l xs fj) i)∧∀ i (h:i<l.length) (h':i<xs.length),QV P cfg l[i] (db (l.take i) (xs.take i) fj) σ xs[i]
 |[],rg,fj,he,h=>⟨[],rfl,⟨rg,h,he⟩,fun i h=>absurd h (by simp)⟩
 |c::l,rg,fj,he,h=>by
  obtain⟨rg',vi,hv⟩:=PN h
  obtain⟨x,hx,hq⟩:=PH hv
  have A9:∀ i,lk rg' i=lk fj i:=fun i=>(vi i).trans (he i)
  obtain⟨xs,h1,h2,h3⟩:=PK l _ (bM c.d x fj) (vL A9 c.d x) hx
  refine⟨x::xs,by simp[h1],h2,fun i hi cH=> ?_⟩
  cases i with
  |zero=>exact r4 (fun t _=>A9 t) hq
  |succ i=>simpa[db]using h3 i (by grind) (by grind)
theorem ay7{P:Program}[Glob P]{cfg:Nat→Nat}{d:Option Nat}{rg:ae}{σ:Store}{K:AV→Prop}{op:aw}(h4:op.cls=4)(h:aG P cfg d rg σ K op):False:=by
 cases op<;>simp only[aw.cls,reduceCtorEq,Nat.reduceEqDiff,Nat.zero_ne_add_one]at h4<;>exact h
theorem PL{P:Program}[Glob P]{cfg:Nat→Nat}{σ:Store}{K:ae→Prop}:∀ (l:List CI) (rg:ae),(∀ c∈l,c.op.cls≤1∨(c.op.cls=4∧c.g=none))→mX P cfg l K rg σ→∀ c∈l,c.op.cls≤1
 |[],_,_,_=>fun _ h=>by cases h
 |c::l,rg,hc,h=>by
  obtain⟨rg',_,hv⟩:=PN h
  obtain⟨x,hx,_⟩:=PH hv
  intro c' iX
  rcases ZV.1 iX with rfl|iX
  ·rcases hc c' (by simp)with h1|⟨h1,h2⟩
   ·exact h1
   ·exfalso
    unfold rJ at hv
    simp only[h2]at hv
    exact ay7 h1 hv
  ·exact PL l _ (fun c h=>hc c (by simp[h])) hx c' iX
theorem tw:∀ (l:List CI) (xs:List AV) (rg:ae) (t:Nat),(∀ c∈l,c.d≠some t)→lk (db l xs rg) t=lk rg t
 |[],xs,rg,t,_=>rfl
 |c::l,[],rg,t,_=>rfl
 |c::l,x::xs,rg,t,h=>by
  simp only[db]
  rw[tw l xs _ t (fun c' hc=>h c' (ZX _ hc))]
  have hc:=h c (by simp)
  cases hd:c.d with
  |none=>rfl
  |some d=>
   have:Nat.beq d t=false:=by rw[← Yt,Nat.beq_eq];grind
   simp[bM,lk,this]
theorem yD:∀ (l:List CI) (xs:List AV) (rg:ae),(l.map (·.d)).Nodup→xs.length=l.length→∀ j (h:j<l.length) (h':j<xs.length) t,l[j].d=some t→lk (db l xs rg) t=xs[j]
 |[],xs,rg,_,_,j,h,_,_,_=>absurd h (by simp)
 |c::l,[],rg,_,hl,_,_,_,_,_=>by grind
 |c::l,x::xs,rg,hn,hl,j,h,h',t,hd=>by
  simp only[ZH,YF]at hn
  simp only[db]
  cases j with
  |zero=>
   simp at hd ⊢
   rw[tw l xs _ t (fun c' hc e=>hn.1 (by grind))]
   simp[bM,hd,lk,YJ]
  |succ j=>exact yD l xs _ hn.2 (by grind) j (by grind) (by grind) t (by grind)
theorem filter_lt{α:Type}(p q:α→Bool):∀ (l:List α),(∀ x∈l,q x=true→p x=true)→(∃ x∈l,p x=true∧q x=false)→(l.filter q).length+1≤(l.filter p).length
 |[],_,⟨x,hx,_⟩=>by grind
 |y::l,h,⟨x,hx,hp,hq⟩=>by
  have hle:∀ (l:List α),(∀ x∈l,q x=true→p x=true)→(l.filter q).length≤(l.filter p).length:=by
   intro l
   induction l with
   |nil=>simp
   |cons z l ih=>
    grind
  rcases ZV.1 hx with rfl|hx
  ·grind
  ·have ih:=filter_lt p q l (fun x hx=>h x (by simp[hx])) ⟨x,hx,hp,hq⟩
   grind
section
variable {P:Program}[Glob P]{M:Mem}{w0:Base}{w:World}{σ:Store}{rg:ae}{a:Act}{cfg:Nat→Nat}{N:Nat}
theorem Az{ops:Array Oper}:∀ (os:List Oper) (l:List CI),gE P N ops os=some l→l.length=os.length∧∀ i (h:i<os.length) (h':i<l.length),oT P N ops os[i]=some l[i]
 |[],l,h=>by simp only[gE,Z5]at h;grind
 |o::os,l,h=>by
  simp only[gE]at h
  split at h
  ·obtain⟨l',h1,rfl⟩:=ZR.1 h
   obtain⟨h2,h3⟩:=Az os l' h1
   grind
  grind
theorem Vv{ops:Array Oper}{l:List CI}(h:oW ops l=true):∃ k,∃ hk:k<l.length,tJ l 0=some k∧l[k].op.cls=4:=by
 unfold oW at h
 split at h
 ·cases h
 ·rename_i k e
  obtain⟨i,h1,h2,h3,_⟩:=F4 _ _ e
  obtain rfl:k=i:=by omega
  exact⟨k,h1,e,h3⟩
theorem JM{ops:Array Oper}{l:List CI}(h:oV ops l=true∨oW ops l=true):∀ c∈l,c.op.cls≤1∨(c.op.cls=4∧c.g=none):=fun c hc=>by
 have key:c.d.isSome=true∧(c.op.cls.ble 1=true∨(c.op.cls.beq 4=true∧c.g.isNone=true)):=by
  rcases h with h|h
  ·unfold oV at h
   simp_all
  ·unfold oW at h
   split at h
   ·cases h
   ·simp only[Z0,ZF,Zl]at h
    exact h.1.2 c hc
 simp_all
def Ad(P:Program)[Glob P](cfg:Nat→Nat)(K:ae→Prop)(l:List CI)(rg:ae)(σ:Store):Prop:=
 ∃ xs:List AV,xs.length=l.length∧(∃ fG,K fG∧∀ i,lk fG i=lk (db l xs rg) i)∧∀ i (h:i<l.length) (h':i<xs.length),QV P cfg l[i] (db (l.take i) (xs.take i) rg) σ xs[i]
theorem uD{l:List CI}{Q:Exit→ae→Store→Prop}(cfg:Nat→Nat)(h:(∀ c∈l,c.op.cls≤1∨(c.op.cls=4∧c.g=none))→Ad P cfg (fun rg'=>Q .normal rg' σ) l rg σ∧∀ c∈l,c.op.cls≤1):SW P N (.azZ l) Q rg σ:=by
 intro c hc M w0 a w hI hR hN hD
 obtain⟨id,ops,rfl,hl,hok,o4⟩:=dO hc
 obtain⟨hlen,o5⟩:=Az ops.toList l hl
 have qH:l.length=ops.size:=by simpa using hlen
 obtain⟨⟨xs,oa,⟨fG,hK,hF⟩,Xk⟩,cX⟩:=h (JM hok)
 replace hok:oV ops l=true:=by
  rcases hok with hok|hok
  ·exact hok
  ·exfalso
   obtain⟨k,hk,_,h4⟩:=Vv hok
   have:=cX _ (Y0 hk)
   omega
 unfold oV at hok
 simp only[Z0,ZB]at hok
 obtain⟨⟨hnd,_⟩,nK⟩:=hok
 rw[ZF]at nK
 have ep:∀ i (hi:i<l.length) (ho:i<ops.size),(∀ e∈ops[i].after,Region.binds .any e=true→e.on<i)∧∀ t∈l[i].reads,(∀ c∈l,c.d≠some t)∨∃ j,∃ hj:j<l.length,l[j].d=some t∧j<i∧∃ e∈ops[i].after,Region.binds .any e=true∧e.on=j:=by
  intro i hi ho
  have hm:((l[i],ops[i]),i)∈(l.zip ops.toList).zipIdx:=by
   rw[List.mem_zipIdx_iff_getElem?]
   simp[List.getElem?_zip_eq_some,hi,ho]
  have:=nK _ hm
  simp only[Z0]at this
  obtain⟨h1,h2⟩:=this
  have hb:∀ e∈ops[i].after,Region.binds .any e=true→e.on<i:=by
   intro e he jZ
   have:=ZM.1 h1 e he
   simpa[jZ]using this
  refine⟨hb,fun t ht=> ?_⟩
  have h3:=ZF.1 h2 t ht
  split at h3
  ·rename_i j hj
   right
   rw[X7]at h3
   obtain⟨m,lJ,h4⟩:=h3
   simp only[Z0,beq_iff_eq]at h4
   have hjl:j<l.length∧(l.map (·.d))[j]? =some (some t):=by
    obtain⟨i',h5,h6⟩:=F6 _ _ hj
    obtain rfl:j=i':=by omega
    exact⟨by have:=(ZN.1 h6).1;simpa using this,h6⟩
   obtain⟨lH,nN⟩:=hjl
   refine⟨j,lH,by simpa[lH]using nN,?_,ops[i].after[m],Yz lJ,h4.1,h4.2⟩
   rw[← h4.2]
   exact hb _ (Yz lJ) h4.1
  ·rename_i hj
   left
   intro c hc e
   exact F5 _ _ hj (by rw[← e];exact YT hc)
 let RG:=db l xs rg
 have u4:∀ j (h:j<l.length) t,l[j].d=some t→lk RG t=xs[j]'(by omega):=fun j h t ht=>yD l xs rg hnd oa j h (by omega) t ht
 have u5:∀ t,(∀ c∈l,c.d≠some t)→lk RG t=lk rg t:=fun t ht=>tw l xs rg t ht
 have hQ:∀ i (hi:i<l.length),QV P cfg l[i] RG σ (xs[i]'(by omega)):=by
  intro i hi
  refine r4 (fun t ht=> ?_) (Xk i hi (by omega))
  rcases(ep i hi (by omega)).2 t ht with hn|⟨j,hj,cz,nO,_⟩
  ·rw[u5 t hn]
   exact tw _ _ _ _ (fun c hc=>hn c (List.mem_of_mem_take hc))
  ·rw[u4 j hj t cz]
   have e1:(l.take i)[j]'(by simp;omega)=l[j]:=by simp
   have e2:(xs.take i)[j]'(by simp;omega)=xs[j]'(by omega):=by simp
   rw[← e2]
   refine yD (l.take i) (xs.take i) rg ?_ (by simp[oa]) j (by simp;omega) (by simp;omega) t (by rw[e1];exact cz)
   rw[XZ]
   exact hnd.sublist (List.take_sublist _ _)
 refine Dz o4 ?_
 have main:∀ (fuel:Nat) (listed:Array Bool) (a:Act) (w:World),listed.size=ops.size→((List.range ops.size).filter (fun i=> !listed.getD i true)).length≤fuel→
   (∃ M2,M.le M2∧Inv P M2 w0 σ w∧a.tmps.size=N∧a.defers=Glob.df P∧(∀ t,(∀ c∈l,c.d≠some t)→R M2 (lk rg t) (a.tmps.getD t undef))∧∀ j (h:j<l.length) t,listed.getD j true=true→l[j].d=some t→R M2 (xs[j]'(by omega)) (a.tmps.getD t undef))→
   wpAny P .any ops (gF P M w0 N Q) fuel listed a w:=by
  intro fuel
  induction fuel with
  |zero=>
   rintro listed a w hsz vd ⟨M2,g1,g2,g3,g4,g5,g6⟩
   have aJb:∀ i,i<ops.size→listed.getD i true=true:=by
    intro i hi
    cases mE:listed.getD i true with
    |true=>rfl
    |false=>
     have:i∈(List.range ops.size).filter (fun i=> !listed.getD i true):=by simp only[YZ,Y5,hi,mE,XP,and_self]
     have:=List.length_pos_of_mem this
     omega
   refine⟨?_,M2,fG,σ,g1,g2,fun t=> ?_,g3,g4,hK⟩
   ·unfold Region.ready
    rw[Yv]
    intro i hi
    simp[aJb i (by simpa using hi)]
   ·rw[hF]
    by_cases ht:∃ j,∃ h:j<l.length,l[j].d=some t
    ·obtain⟨j,hj,cz⟩:=ht
     show R M2 (lk RG t) _
     rw[u4 j hj t cz]
     exact g6 j hj t (aJb j (by omega)) cz
    ·show R M2 (lk RG t) _
     rw[u5 t (fun c hc e=>by
      obtain⟨j,hj,rfl⟩:=Zd.1 hc
      exact ht ⟨j,hj,e⟩)]
     exact g5 t (fun c hc e=>by
      obtain⟨j,hj,rfl⟩:=Zd.1 hc
      exact ht ⟨j,hj,e⟩)
  |succ fuel ih=>
   rintro listed a w hsz vd ⟨M2,g1,g2,g3,g4,g5,g6⟩
   refine⟨fun hr=> ?_,fun i hi=> ?_⟩
   ·
    have aJb:∀ i,i<ops.size→listed.getD i true=true:=by
     intro i
     induction i using Nat.strongRecOn with
     |_ i Fg=>
      intro hi
      cases mE:listed.getD i true with
      |true=>rfl
      |false=>
       have:i∈Region.ready .any ops listed:=by
        unfold Region.ready
        rw[YZ]
        refine⟨by simpa using hi,?_⟩
        simp only[mE,XP,Bool.true_and,ZQ hi,Zu,ZE]
        rw[ZM]
        intro e he
        cases jZ:Region.binds .any e with
        |false=>rfl
        |true=>
         have aH:=(ep i (by omega) hi).1 e he jZ
         have:=Fg e.on aH (by omega)
         have h2:listed.getD e.on false=true:=by
          rw[Z2]at this ⊢
          rw[ZQ (by omega)]at this ⊢
          exact this
         simp[h2]
       rw[hr]at this
       cases this
    refine⟨M2,fG,σ,g1,g2,fun t=> ?_,g3,g4,hK⟩
    rw[hF]
    by_cases ht:∃ j,∃ h:j<l.length,l[j].d=some t
    ·obtain⟨j,hj,cz⟩:=ht
     show R M2 (lk RG t) _
     rw[u4 j hj t cz]
     exact g6 j hj t (aJb j (by omega)) cz
    ·show R M2 (lk RG t) _
     rw[u5 t (fun c hc e=>by
      obtain⟨j,hj,rfl⟩:=Zd.1 hc
      exact ht ⟨j,hj,e⟩)]
     exact g5 t (fun c hc e=>by
      obtain⟨j,hj,rfl⟩:=Zd.1 hc
      exact ht ⟨j,hj,e⟩)
   ·unfold Region.ready at hi
    rw[YZ]at hi
    obtain⟨sV,nM⟩:=hi
    have hio:i<ops.size:=by simpa using sV
    simp only[Z0,YV,ZQ hio,Zu,ZE]at nM
    obtain⟨ph,vg⟩:=nM
    have bz:i<l.length:=by omega
    have nJ:oT P N ops ops[i]=some l[i]:=by have:=o5 i (by simpa using hio) bz;simpa using this
    obtain⟨iZ,aH⟩:=xy nJ
    let rg':=Sx.eY l[i].reads RG
    have sK:bE M2 rg' a:=by
     intro t
     by_cases ht:t∈l[i].reads
     ·rw[Bx ht]
      rcases(ep i bz hio).2 t ht with hn|⟨j,hj,cz,nO,e,he,jZ,Ew⟩
      ·rw[u5 t hn];exact g5 t hn
      ·rw[u4 j hj t cz]
       refine g6 j hj t ?_ cz
       have:=ZM.1 vg e he
       simp only[jZ,Bool.not_true,Bool.false_or,Ew]at this
       rw[Z2]at this ⊢
       rw[ZQ (by omega)]at this ⊢
       exact this
     ·rw[MO ht];exact .any _
    have hq:QV P cfg l[i] rg' σ (xs[i]'(by omega)):=r4 (fun t ht=>(Bx ht).symm) (hQ i bz)
    unfold wpOp
    simp only[ZQ hio]
    refine sD (K:=fun y σ'=>y=xs[i]'(by omega)∧σ'=σ) (E:=fun _ _=>False) nJ hq g2 sK ⟨?_,fun _ _ _ _ _ _ h=>h.elim⟩
    rintro M3 x σ' v w' hM hI' hx ⟨rfl,rfl⟩
    refine ih _ _ _ (by simp[hsz]) ?_ ⟨M3,g1.trans hM,hI',by rw[Act.size_put];exact g3,by rw[Act.xB];exact g4,fun t ht=> ?_,fun j hj t ja cz=> ?_⟩
    ·have:=filter_lt (fun i=> !listed.getD i true) (fun k=> !(listed.setIfInBounds i true).getD k true) (List.range ops.size) (fun k _ hk=>by
      simp only[YV]at hk ⊢
      rw[Z2,Zz]at hk
      split at hk
      ·split at hk<;>simp at hk
      ·rw[Z2];exact hk) ⟨i,sV,by simpa using ph,by
       simp only[Bool.not_eq_false']
       rw[Z2,Zz]
       simp[hsz,hio]⟩
     omega
    ·have aQ:ops[i].dst≠some t:=by rw[← iZ];exact ht _ (Y0 bz)
     have:=(g5 t ht).mono hM
     have e:(a.put ops[i].dst v).tmps.getD t undef=a.tmps.getD t undef:=by
      cases hd:ops[i].dst with
      |none=>rfl
      |some u=>
       have s7:u≠t:=fun e=>aQ (by rw[hd,e])
       simp[Act.put,Za s7]
     rw[e];exact this
    ·by_cases gu:j=i
     ·subst gu
      have hd:ops[j].dst=some t:=by rw[← iZ];exact cz
      have E3:t<a.tmps.size:=by rw[g3];exact aH t cz
      have e:(a.put ops[j].dst v).tmps.getD t undef=v:=by simp[hd,Act.put,E3]
      rw[e];exact hx
     ·have Be:listed.getD j true=true:=by
       rw[Z2,Zz,if_neg (fun e=>gu e.symm)]at ja
       rw[Z2];exact ja
      have:=(g6 j hj t Be cz).mono hM
      have e:(a.put ops[i].dst v).tmps.getD t undef=a.tmps.getD t undef:=by
       cases hd:ops[i].dst with
       |none=>rfl
       |some u=>
        have s7:u≠t:=fun e=>by
         subst e
         have h1:l[i].d=some u:=iZ.trans hd
         have mG:=List.pairwise_iff_getElem.1 hnd
         rcases YB i j with h|h|h
         ·exact mG i j (by simpa using bz) (by simpa using hj) h (by simp[h1,cz])
         ·exact gu h.symm
         ·exact mG j i (by simpa using hj) (by simpa using bz) h (by simp[h1,cz])
        simp[Act.put,Za s7]
      rw[e];exact this
 refine main ops.size _ a _ (by simp) ?_ ⟨M,Mem.le.refl _,hI.kq,hN,hD,fun t _=>hR t,fun j hj t ja _=> ?_⟩
 ·exact YG (XO _ _) (by simp)
 ·exfalso
  have sW:j<ops.size:=by omega
  simp[sW]at ja
where
 Bx {l:List Nat} {rg:ae} {t:Nat} (h:t∈l):lk (Sx.eY l rg) t=lk rg t:=by
  induction l with
  |nil=>cases h
  |cons u l ih=>
   simp only[Sx.eY,lk]
   cases hb:Nat.beq u t with
   |true=>rw[ZL hb];rfl
   |false=>
    rcases ZV.1 h with rfl|h
    ·simp[YJ]at hb
    ·exact ih h
 MO {l:List Nat} {rg:ae} {t:Nat} (h:t∉l):lk (Sx.eY l rg) t= .any:=by
  induction l with
  |nil=>rfl
  |cons u l ih=>
   simp only[Sx.eY,lk]
   cases hb:Nat.beq u t with
   |true=>exact absurd (ZV.2 (.inl (ZL hb).symm)) h
   |false=>exact ih (fun hm=>h (ZX _ hm))
theorem Qy{l:List CI}{Q:Exit→ae→Store→Prop}(cfg:Nat→Nat)(h:mX P cfg l (fun rg'=>Q .normal rg' σ) rg σ):SW P N (.azZ l) Q rg σ:=
 uD cfg fun hc=>⟨PK l rg rg (fun _=>rfl) h,PL l rg hc h⟩
end
end Go.Sx
