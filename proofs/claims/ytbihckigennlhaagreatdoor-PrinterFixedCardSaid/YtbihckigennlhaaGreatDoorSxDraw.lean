/-
  The layer Sx, eleventh part: a region whose order is open and whose operations only compute.
-/
import Derived.Test.YtbihckigennlhaaGreatDoorSxFn
set_option linter.unusedVariables false
set_option linter.unusedSimpArgs false
set_option linter.unusedSectionVars false
namespace Go.Sx
open Go.RowKit
theorem ph{rg ao:ae}{x:Operand}(h:∀ t∈tmpsOf [x],lk rg t=lk ao t):ev rg x=ev ao x:=by
 cases x<;>simp_all [ev,tmpsOf]
theorem oM(x:Operand)(l:List Operand):tmpsOf (x::l)=tmpsOf [x]++tmpsOf l:=by cases x<;>rfl
theorem ES(l l':List Operand):tmpsOf (l++l')=tmpsOf l++tmpsOf l':=by
 induction l with
 |nil=>rfl
 |cons x l ih=>rw[ZH,oM,oM x l,ih,Zv]
theorem iQ{rg ao:ae}:∀ (l:List Operand),(∀ t∈tmpsOf l,lk rg t=lk ao t)→aQ rg l=aQ ao l
 |[],_=>rfl
 |x::l,h=>by
  rw[oM]at h
  simp only[aQ]
  rw[ph fun t ht=>h t (ZC _ ht),iQ l fun t ht=>h t (Zp _ ht)]
theorem H9{rg ao:ae}:∀ (l:List (Nat×Nat×Operand)),(∀ t∈tmpsOf (l.map (·.2.2)),lk rg t=lk ao t)→nY rg l=nY ao l
 |[],_=>rfl
 |(o,n,x)::l,h=>by
  rw[ZL,oM]at h
  simp only[nY]
  rw[ph fun t ht=>h t (ZC _ ht),H9 l fun t ht=>h t (Zp _ ht)]
theorem oO{P:Program}[Glob P]{cfg:Nat→Nat}{d:Option Nat}{rg ao:ae}{σ:Store}{K:AV→Store→Prop}{E:List PanicEntry→Store→Prop}{op:au}(h:∀ t∈tmpsOf op.opers,lk rg t=lk ao t):
  aj P cfg d rg σ K E op=aj P cfg d ao σ K E op:=by
 have e1:∀ x,x∈op.opers→ev rg x=ev ao x:=fun x hx=>ph fun t ht=>h t (by
  obtain⟨l1,l2,e⟩:=List.append_of_mem hx
  rw[e,ES,oM]
  exact Zp _ (ZC _ ht))
 cases op with
 |build z parts=>simp only[aj];rw[H9 parts h]
 |bh t af parts=>simp only[aj];rw[iQ parts h]
 |call f args=>simp only[aj];rw[iQ args h]
 |dp f args=>
  have hf:ev rg f=ev ao f:=e1 f (by simp[au.opers])
  have ha:aQ rg args=aQ ao args:=iQ args fun t ht=>h t (by simp only[au.opers];rw[oM];exact Zp _ ht)
  simp only[aj];rw[hf,ha]
 |fI fn first captured=>
  have hf:aQ rg first=aQ ao first:=iQ first fun t ht=>h t (by simp only[au.opers];rw[ES];exact ZC _ ht)
  have ha:aQ rg captured=aQ ao captured:=iQ captured fun t ht=>h t (by simp only[au.opers];rw[ES];exact Zp _ ht)
  simp only[aj];rw[hf,ha]
 |slice af x lo hi=>
  have hx:ev rg x=ev ao x:=e1 x (by simp[au.opers])
  have hl:lo.map (ev rg)=lo.map (ev ao):=by cases lo with
   |none=>rfl
   |some y=>simp only[Zy];rw[e1 y (by simp[au.opers])]
  have hh:hi.map (ev rg)=hi.map (ev ao):=by cases hi with
   |none=>rfl
   |some y=>simp only[Zy];rw[e1 y (by simp[au.opers])]
  simp only[aj];rw[hx,hl,hh]
 |len s x=>cases s<;>(simp only[aj];rw[e1 x (by simp[au.opers])])
 |alloc t z=>rfl
 |b8 op ty ti args=>simp only[aj];rw[iQ args h]
 |exts op ty ti args=>simp only[aj];rw[iQ args h]
 |pick c x y=>simp only[aj];rw[e1 c (by simp[au.opers]),e1 x (by simp[au.opers]),e1 y (by simp[au.opers])]
 |store n x y=>simp only[aj];rw[e1 x (by simp[au.opers]),e1 y (by simp[au.opers])]
 |bin op x y=>simp only[aj];rw[e1 x (by simp[au.opers]),e1 y (by simp[au.opers])]
 |gz n k x y=>simp only[aj];rw[e1 x (by simp[au.opers]),e1 y (by simp[au.opers])]
 |eqs n k x y=>simp only[aj];rw[e1 x (by simp[au.opers]),e1 y (by simp[au.opers])]
 |er n x y=>simp only[aj];rw[e1 x (by simp[au.opers]),e1 y (by simp[au.opers])]
 |gV n k x y=>simp only[aj];rw[e1 x (by simp[au.opers]),e1 y (by simp[au.opers])]
 |idxs x y=>simp only[aj];rw[e1 x (by simp[au.opers]),e1 y (by simp[au.opers])]
 |append t n k z x y=>simp only[aj];rw[e1 x (by simp[au.opers]),e1 y (by simp[au.opers])]
 |max2 x y=>simp only[aj];rw[e1 x (by simp[au.opers]),e1 y (by simp[au.opers])]
 |min2 x y=>simp only[aj];rw[e1 x (by simp[au.opers]),e1 y (by simp[au.opers])]
 |mv x=>simp only[aj];rw[e1 x (by simp[au.opers])]
 |box t x=>simp only[aj];rw[e1 x (by simp[au.opers])]
 |load g n x=>simp only[aj];rw[e1 x (by simp[au.opers])]
 |jw x=>simp only[aj];rw[e1 x (by simp[au.opers])]
 |un op x=>simp only[aj];rw[e1 x (by simp[au.opers])]
 |kj k x=>simp only[aj];rw[e1 x (by simp[au.opers])]
 |nU x=>simp only[aj];rw[e1 x (by simp[au.opers])]
 |kK t x=>simp only[aj];rw[e1 x (by simp[au.opers])]
 |panic x=>simp only[aj];rw[e1 x (by simp[au.opers])]
 |ig n x=>simp only[aj];rw[e1 x (by simp[au.opers])]
 |field g o n x=>simp only[aj];rw[e1 x (by simp[au.opers])]
 |extract x i=>simp only[aj];rw[e1 x (by simp[au.opers])]
def QV(P:Program)[Glob P](cfg:Nat→Nat)(c:CI)(rg:ae)(σ:Store)(x:AV):Prop:=cT P cfg c (fun y σ'=>y=x∧σ'=σ) (fun _ _=>False) rg σ
theorem qF{P:Program}[Glob P]{cfg:Nat→Nat}{c:CI}{rg ao:ae}{σ:Store}{x:AV}(h:∀ t∈c.reads,lk rg t=lk ao t)(hq:QV P cfg c rg σ x):QV P cfg c ao σ x:=by
 unfold QV cT at *
 have h1:∀ K E,aj P cfg c.d rg σ K E c.op=aj P cfg c.d ao σ K E c.op:=fun K E=>oO fun t ht=>h t (ZC _ ht)
 cases hg:c.g with
 |none=>rw[hg]at hq;simp only at hq ⊢;rw[← h1];exact hq
 |some p=>
  obtain⟨u,want⟩:=p
  have hu:lk rg u=lk ao u:=h u (Zp _ (by simp[hg]))
  rw[hg]at hq
  simp only at hq ⊢
  rw[← hu]
  split<;>rename_i e<;>simp only[e]at hq
  ·rw[← h1];exact hq
  ·exact hq
def vG(P:Program)[Glob P](f:FuncId)(as:List AV)(K:AV→Prop):Prop:=∃ r,Pure P f as r∧K r
theorem qcall_congr{P:Program}[Glob P]{f:FuncId}{as as':List AV}{K:AV→Prop}(h:as=as'):vG P f as K=vG P f as' K:=by rw[h]
def aC(P:Program)[Glob P](cfg:Nat→Nat)(d:Option Nat)(rg:ae)(σ:Store)(K:AV→Prop):au→Prop
 | .box .. | .alloc .. | .store .. | .append .. | .exts .. | .panic .. =>False
 | .b8 op ty ti args=>∃ r,qE P op ty ti args (aQ rg args) r∧K r
 | .dp f args=>match ev rg f with
  | .v (.func (.func f) a c)=>gx P f=true∧vG P f (a.toList.map .v++aQ rg args++c.toList.map .v) K
  | .cl f a c=>gx P f=true∧vG P f (a++aQ rg args++c) K
  |_=>False
 | .call f args=>vG P f (aQ rg args) K
 | .bh _ af parts=>match rowsOf af (aQ rg parts)with
  |some rows=>rows.length≤1000000∧match cfg (d.getD 0)with
   |0=>K (.sl true af rows)
   |3=>K (.fl af rows)
   |_=>False
  |none=>False
 | .len true x=>match ev rg x with
  | .v (.string s)=>K (.v (.int .i64 s.size))
  |_=>False
 | .len false x=>match ev rg x with
  | .v (.slice _ n _)=>K (.v (.int .i64 n))
  | .ms _ _ _ n _=>K (.v (.int .i64 n))
  | .sl _ _ rows=>K (.v (.int .i64 rows.length))
  | .own _ _ _ _ _ rows=>K (.v (.int .i64 rows.length))
  |_=>False
 |op=>aj P cfg d rg σ (fun x _=>K x) (fun _ _=>False) op
theorem Ni{op:BinOp}{a b:Value}{K:Value→Prop}(h:me op a b K):∃ x,K x∧∀ K':Value→Prop,K' x→me op a b K':=by
 unfold me at h
 split at h
 ·cases op<;>simp only at h<;>simp only[me]
  case quo=>exact⟨_,h.2.2,fun K' hk=>⟨h.1,h.2.1,hk⟩⟩
  case rem=>exact⟨_,h.2.2,fun K' hk=>⟨h.1,h.2.1,hk⟩⟩
  case shl=>exact⟨_,h.2.2,fun K' hk=>⟨h.1,h.2.1,hk⟩⟩
  case shr=>exact⟨_,h.2.2,fun K' hk=>⟨h.1,h.2.1,hk⟩⟩
  all_goals exact⟨_,h.2,fun K' hk=>⟨h.1,hk⟩⟩
 ·cases op<;>simp only at h<;>simp only[me]
  case add=>exact⟨_,h.2,fun K' hk=>⟨h.1,hk⟩⟩
  case eql=>exact⟨_,h,fun K' hk=>hk⟩
  case neq=>exact⟨_,h,fun K' hk=>hk⟩
  case lss=>exact⟨_,h,fun K' hk=>hk⟩
  case leq=>exact⟨_,h,fun K' hk=>hk⟩
  case gtr=>exact⟨_,h,fun K' hk=>hk⟩
  case geq=>exact⟨_,h,fun K' hk=>hk⟩
 ·exact h.elim
theorem E7{P:Program}[Glob P]{cfg:Nat→Nat}{d:Option Nat}{rg:ae}{σ:Store}{K:AV→Prop}{op:au}(h:aC P cfg d rg σ K op):
  ∃ x,K x∧∀ (K':AV→Store→Prop) (E':List PanicEntry→Store→Prop),K' x σ→aj P cfg d rg σ K' E' op:=by
 cases op with
 |box t x=>exact h.elim
 |alloc t z=>exact h.elim
 |store n x y=>exact h.elim
 |append t n k z x y=>exact h.elim
 |exts op ty ti args=>exact h.elim
 |panic x=>exact h.elim
 |b8 op ty ti args=>obtain⟨r,hp,hk⟩:=h;exact⟨r,hk,fun K' E' h=>(hp.sp σ).mono fun x σ' ⟨e1,e2⟩=>by subst e1 e2;exact h⟩
 |call f args=>obtain⟨r,hp,hk⟩:=h;exact⟨r,hk,fun K' E' h=>tp hp h⟩
 |dp f args=>
  simp only[aC]at h
  simp only[aj]
  split at h
  ·rename_i g b c he
   obtain⟨bI,r,hp,hk⟩:=h
   (try rw[he])
   exact⟨r,hk,fun K' E' h=>⟨bI,tp hp h⟩⟩
  ·rename_i g b c he
   obtain⟨bI,r,hp,hk⟩:=h
   (try rw[he])
   exact⟨r,hk,fun K' E' h=>⟨bI,tp hp h⟩⟩
  ·exact h.elim
 |bh t af parts=>
  simp only[aC]at h
  simp only[aj]
  split at h
  ·rename_i rows he
   (try rw[he])
   obtain⟨hn,h⟩:=h
   split at h
   ·rename_i e;exact⟨_,h,fun K' E' hk=>⟨hn,by simp only[e];exact hk⟩⟩
   ·rename_i e;exact⟨_,h,fun K' E' hk=>⟨hn,by simp only[e];exact hk⟩⟩
   ·exact h.elim
  ·exact h.elim
 |len s x=>
  cases s<;>simp only[aC]at h<;>simp only[aj]
  ·split at h
   ·rename_i b n c he;(try rw[he]);exact⟨_,h,fun K' E' hk=>hk⟩
   ·rename_i tg b o n c he;(try rw[he]);exact⟨_,h,fun K' E' hk=>hk⟩
   ·rename_i nn ez rows he;(try rw[he]);exact⟨_,h,fun K' E' hk _=>hk⟩
   ·rename_i ez tg b u c rows he;(try rw[he]);exact⟨_,h,fun K' E' hk _=>hk⟩
   ·exact h.elim
  ·split at h
   ·rename_i s he;(try rw[he]);exact⟨_,h,fun K' E' hk=>hk⟩
   ·exact h.elim
 |mv x=>exact⟨_,h,fun K' E' hk=>hk⟩
 |kK t x=>exact⟨_,h,fun K' E' hk=>hk⟩
 |pick c x y=>
  simp only[aC,aj]at h
  simp only[aj]
  split at h
  ·rename_i t he;(try rw[he]);exact⟨_,h,fun K' E' hk=>hk⟩
  ·exact h.elim
 |build z parts=>
  simp only[aC,aj]at h
  simp only[aj]
  split at h
  ·rename_i t he;(try rw[he]);exact⟨_,h,fun K' E' hk=>hk⟩
  ·exact h.elim
 |load g n x=>
  simp only[aC,aj]at h
  simp only[aj]
  split at h
  ·rename_i tg b o he
   (try rw[he])
   split at h
   ·rename_i b' l hb
    obtain⟨rfl,h⟩:=h
    (try simp only[hb])
    cases g with
    |true=>simp only[Ze]at h ⊢;exact⟨_,h.2,fun K' E' hk=>⟨trivial,h.1,hk⟩⟩
    |false=>
     simp only[ZT,ZA]at h ⊢
     split at h
     ·rename_i y hy;(try rw[hy]);exact⟨_,h,fun K' E' hk=>⟨trivial,hk⟩⟩
     ·exact h.elim
   ·exact h.elim
  ·rename_i l he
   (try rw[he])
   cases g with
   |true=>simp only[Ze]at h ⊢;exact⟨_,h.2,fun K' E' hk=>⟨h.1,hk⟩⟩
   |false=>
    simp only[ZT,ZA]at h ⊢
    split at h
    ·rename_i y hy;(try rw[hy]);exact⟨_,h,fun K' E' hk=>hk⟩
    ·exact h.elim
  ·rename_i gv he
   (try rw[he])
   split at h
   ·rename_i l hl
    (try simp only[hl])
    cases g with
    |true=>simp only[Ze]at h ⊢;exact⟨_,h.2,fun K' E' hk=>⟨h.1,hk⟩⟩
    |false=>
     simp only[ZT,ZA]at h ⊢
     split at h
     ·rename_i y hy;(try rw[hy]);exact⟨_,h,fun K' E' hk=>hk⟩
     ·exact h.elim
   ·exact h.elim
  ·exact h.elim
 |jw x=>
  simp only[aC,aj]at h
  simp only[aj]
  split at h<;>first|exact h.elim|(rename_i he;(try rw[he]);exact⟨_,h,fun K' E' hk=>hk⟩)
 |bin op x y=>
  simp only[aC,aj]at h
  simp only[aj]
  split at h
  ·rename_i u v hu hv
   (try rw[hu,hv])
   obtain⟨z,hz,nf⟩:=Ni h
   exact⟨.v z,hz,fun K' E' hk=>nf _ hk⟩
  ·exact h.elim
 |gz n k x y=>
  simp only[aC,aj]at h
  simp only[aj]
  split at h
  ·rename_i t he;(try rw[he]);exact⟨_,h,fun K' E' hk=>hk⟩
  ·exact h.elim
 |eqs n k x y=>
  simp only[aC,aj]at h
  simp only[aj]
  split at h
  ·rename_i xs ys h1 h2
   (try rw[h1,h2])
   split at h
   ·rename_i t he;(try simp only[he]);exact⟨_,h,fun K' E' hk=>hk⟩
   ·exact h.elim
  ·exact h.elim
 |un op x=>
  simp only[aC,aj]at h
  simp only[aj]
  split at h
  ·rename_i u hu
   (try rw[hu])
   split at h
   ·rename_i t he;(try simp only[he]);exact⟨_,h,fun K' E' hk=>hk⟩
   ·exact h.elim
  ·exact h.elim
 |kj k x=>
  simp only[aC,aj]at h
  simp only[aj]
  split at h
  ·rename_i k' n he;(try rw[he]);exact⟨_,h,fun K' E' hk=>hk⟩
  ·exact h.elim
 |nU x=>
  simp only[aC,aj]at h
  simp only[aj]
  split at h
  ·rename_i s he;(try rw[he]);exact⟨_,h,fun K' E' hk=>hk⟩
  ·exact h.elim
 |fI fn first captured=>
  simp only[aC,aj]at h
  simp only[aj]
  split at h
  ·rename_i u v h1 h2;(try rw[h1,h2]);exact⟨_,h,fun K' E' hk=>hk⟩
  ·split at h
   ·exact⟨_,h,fun K' E' hk=>hk⟩
   ·exact h.elim
 |slice af x lo hi=>
  simp only[aC,aj]at h
  simp only[aj]
  split at h
  ·rename_i bT dM h1 h2
   (try rw[h1,h2])
   split at h
   ·rename_i nn e rows he;(try simp only[he]);exact⟨_,h.2.2.2.2,fun K' E' hk=>⟨h.1,h.2.1,h.2.2.1,h.2.2.2.1,hk⟩⟩
   ·rename_i e tg b u c rows he;(try simp only[he]);exact⟨_,h.2.2.2.2,fun K' E' hk=>⟨h.1,h.2.1,h.2.2.1,h.2.2.2.1,hk⟩⟩
   ·rename_i he;(try simp only[he]);exact⟨_,h.2.2,fun K' E' hk=>⟨h.1,h.2.1,hk⟩⟩
   ·exact h.elim
  ·exact h.elim
 |ig off x=>
  simp only[aC,aj]at h
  simp only[aj]
  split at h<;>first|exact h.elim|(rename_i he;(try rw[he]);exact⟨_,h,fun K' E' hk=>hk⟩)
 |field g o n x=>
  simp only[aC,aj]at h
  simp only[aj]
  split at h
  ·rename_i l hl
   (try rw[hl])
   obtain⟨aE,h⟩:=h
   cases g with
   |true=>simp only[Ze]at h ⊢;exact⟨_,h,fun K' E' hk=>⟨aE,hk⟩⟩
   |false=>
    simp only[ZT,ZA]at h ⊢
    split at h
    ·rename_i y hy;(try rw[hy]);exact⟨_,h,fun K' E' hk=>⟨aE,hk⟩⟩
    ·exact h.elim
  ·exact h.elim
 |er af x i=>
  simp only[aC,aj]at h
  simp only[aj]
  split at h
  ·rename_i k j hi
   (try rw[hi])
   split at h
   ·rename_i nn e rows he;(try simp only[he]);exact⟨_,h.2.2.2,fun K' E' hk=>⟨h.1,h.2.1,h.2.2.1,hk⟩⟩
   ·rename_i e tg b u c rows he;(try simp only[he]);exact⟨_,h.2.2.2,fun K' E' hk=>⟨h.1,h.2.1,h.2.2.1,hk⟩⟩
   ·rename_i tg b o n c he;(try simp only[he]);exact⟨_,h.2.2,fun K' E' hk=>⟨h.1,h.2.1,hk⟩⟩
   ·exact h.elim
  ·exact h.elim
 |gV n af x i=>
  simp only[aC,aj]at h
  simp only[aj]
  split at h
  ·rename_i k j hi
   (try rw[hi])
   split at h
   ·rename_i tg b o he;(try simp only[he]);exact⟨_,h.2.2,fun K' E' hk=>⟨h.1,h.2.1,hk⟩⟩
   ·rename_i l he;(try simp only[he]);exact⟨_,h.2.2,fun K' E' hk=>⟨h.1,h.2.1,hk⟩⟩
   ·rename_i g o he;(try simp only[he]);obtain⟨l,ha,h0,h1,h2,h3⟩:=h;exact⟨_,h3,fun K' E' hk=>⟨l,ha,h0,h1,h2,hk⟩⟩
   ·exact h.elim
  ·exact h.elim
 |idxs x i=>
  simp only[aC,aj]at h
  simp only[aj]
  split at h
  ·rename_i k j s h1 h2
   (try rw[h1,h2])
   obtain⟨aE,h⟩:=h
   exact⟨_,h,fun K' E' hk=>⟨aE,hk⟩⟩
  ·exact h.elim
 |extract x i=>
  simp only[aC,aj]at h
  simp only[aj]
  split at h
  ·rename_i xs he
   (try rw[he])
   split at h
   ·rename_i y hy;(try simp only[hy]);exact⟨_,h,fun K' E' hk=>hk⟩
   ·exact h.elim
  ·rename_i xs he
   (try rw[he])
   split at h
   ·rename_i y hy;(try simp only[hy]);exact⟨_,h,fun K' E' hk=>hk⟩
   ·exact h.elim
  ·exact h.elim
 |max2 x y=>
  simp only[aC,aj]at h
  simp only[aj]
  split at h
  ·rename_i u v h1 h2
   (try rw[h1,h2])
   split at h
   ·rename_i t he;(try simp only[he]);exact⟨_,h,fun K' E' hk=>hk⟩
   ·exact h.elim
  ·exact h.elim
 |min2 x y=>
  simp only[aC,aj]at h
  simp only[aj]
  split at h
  ·rename_i u v h1 h2
   (try rw[h1,h2])
   split at h
   ·rename_i t he;(try simp only[he]);exact⟨_,h,fun K' E' hk=>hk⟩
   ·exact h.elim
  ·exact h.elim
def qt(P:Program)[Glob P](cfg:Nat→Nat)(c:CI)(K:AV→Prop)(rg:ae)(σ:Store):Prop:=
 match c.g with
 |none=>aC P cfg c.d rg σ K c.op
 |some (t,want)=>match lk rg t with
  | .v (.bool b)=>(b=want→aC P cfg c.d rg σ K c.op)∧(b= !want→K (.v undef))
  | .v (.tuple _)=>K (.v undef)
  |_=>False
theorem Nj{P:Program}[Glob P]{cfg:Nat→Nat}{c:CI}{rg:ae}{σ:Store}{K:AV→Prop}(h:qt P cfg c K rg σ):∃ x,K x∧QV P cfg c rg σ x:=by
 unfold qt at h
 unfold QV cT
 cases hg:c.g with
 |none=>rw[hg]at h;obtain⟨x,hx,hv⟩:=E7 h;exact⟨x,hx,hv _ _ ⟨rfl,rfl⟩⟩
 |some p=>
  obtain⟨u,want⟩:=p
  rw[hg]at h
  simp only at h ⊢
  split at h
  ·rename_i b he
   by_cases hb:b=want
   ·obtain⟨x,hx,hv⟩:=E7 (h.1 hb)
    refine⟨x,hx,?_⟩
    simp only[he]
    exact⟨fun _=>hv _ _ ⟨rfl,rfl⟩,fun h'=>by subst hb;cases b<;>simp at h'⟩
   ·have fV:b= !want:=by cases b<;>cases want<;>simp_all
    refine⟨_,h.2 fV,?_⟩
    simp only[he]
    exact⟨fun h'=>absurd h' hb,fun _=>by simp⟩
  ·rename_i vs he
   refine⟨_,h,?_⟩
   simp only[he]
   simp
  ·exact h.elim
def mg(P:Program)[Glob P](cfg:Nat→Nat):List CI→(K:ae→Prop)→ae→Store→Prop
 |[],K,rg,_=>K rg
 |c::l,K,rg,σ=>match c.g with
  |none=>aC P cfg c.d rg σ (fun x=>mg P cfg l K (bM c.d x rg) σ) c.op
  |some (t,want)=>match lk rg t with
   | .v (.bool b)=>Gd b want (aC P cfg c.d ((t,.v (.bool want))::rg) σ (fun x=>mg P cfg l K (bM c.d x ((t,.v (.bool want))::rg)) σ) c.op)
     (mg P cfg l K (bM c.d (.v undef) ((t,.v (.bool !want))::rg)) σ)
   | .v (.tuple _)=>mg P cfg l K (bM c.d (.v undef) rg) σ
   |_=>False
theorem Nq{P:Program}[Glob P]{cfg:Nat→Nat}{c:CI}{l:List CI}{K:ae→Prop}{rg:ae}{σ:Store}(h:mg P cfg (c::l) K rg σ):
  ∃ ao,(∀ i,lk ao i=lk rg i)∧qt P cfg c (fun x=>mg P cfg l K (bM c.d x ao) σ) ao σ:=by
 simp only[mg]at h
 split at h
 ·rename_i hg
  exact⟨rg,fun _=>rfl,by unfold qt;rw[hg];exact h⟩
 ·rename_i t want hg
  split at h
  ·rename_i b hb
   by_cases pC:b=want
   ·subst pC
    have e:lk ((t,AV.v (.bool b))::rg) t= .v (.bool b):=by simp[lk,YO]
    refine⟨_,z7 hb,?_⟩
    unfold qt
    rw[hg]
    simp only[e]
    exact⟨fun _=>h.l rfl,fun h'=>by cases b<;>simp at h'⟩
   ·have fV:b= !want:=by cases b<;>cases want<;>simp_all
    subst fV
    have e:lk ((t,AV.v (.bool !want))::rg) t= .v (.bool !want):=by simp[lk,YO]
    refine⟨_,z7 hb,?_⟩
    unfold qt
    rw[hg]
    simp only[e]
    exact⟨fun h'=>absurd h' pC,fun _=>h.r rfl⟩
  ·rename_i vs hb
   exact⟨rg,fun _=>rfl,by unfold qt;rw[hg];simp only[hb];exact h⟩
  ·exact h.elim
theorem uH{rg ao:ae}(h:∀ i,lk ao i=lk rg i)(d:Option Nat)(x:AV)(i:Nat):lk (bM d x ao) i=lk (bM d x rg) i:=by
 cases d with
 |none=>exact h i
 |some d=>simp only[bM,lk];rw[h]
theorem KF(i j:Nat)(x:AV)(r:ae):lk ((i,x)::r) j=if i=j then x else lk r j:=by
 simp only[lk]
 cases h:Nat.beq i j with
 |true=>rw[if_pos (ZM h)];rfl
 |false=>rw[if_neg (fun e=>by subst e;simp[YO]at h)];rfl
def cP:List CI→List AV→ae→ae
 |c::l,x::xs,rg=>cP l xs (bM c.d x rg)
 |_,_,rg=>rg
theorem Nn{P:Program}[Glob P]{cfg:Nat→Nat}{σ:Store}{K:ae→Prop}:∀ (l:List CI) (rg eO:ae),(∀ i,lk rg i=lk eO i)→mg P cfg l K rg σ→
  ∃ xs:List AV,xs.length=l.length∧(∃ fe,K fe∧∀ i,lk fe i=lk (cP l xs eO) i)∧∀ i (h:i<l.length) (h':i<xs.length),QV P cfg l[i] (cP (l.take i) (xs.take i) eO) σ xs[i]
 |[],rg,eO,he,h=>⟨[],rfl,⟨rg,h,he⟩,fun i h=>absurd h (by simp)⟩
 |c::l,rg,eO,he,h=>by
  obtain⟨ao,ud,hv⟩:=Nq h
  obtain⟨x,hx,hq⟩:=Nj hv
  have zD:∀ i,lk ao i=lk eO i:=fun i=>(ud i).trans (he i)
  obtain⟨xs,h1,h2,h3⟩:=Nn l _ (bM c.d x eO) (uH zD c.d x) hx
  refine⟨x::xs,by simp[h1],h2,fun i hi cz=> ?_⟩
  cases i with
  |zero=>exact qF (fun t _=>zD t) hq
  |succ i=>simpa[cP]using h3 i (by simpa using hi) (by simpa using cz)
theorem atb{P:Program}[Glob P]{cfg:Nat→Nat}{d:Option Nat}{rg:ae}{σ:Store}{K:AV→Prop}{op:au}(h4:op.cls=4)(h:aC P cfg d rg σ K op):False:=by
 cases op<;>simp only[au.cls,reduceCtorEq,Nat.reduceEqDiff,Nat.zero_ne_add_one]at h4<;>exact h
theorem Np{P:Program}[Glob P]{cfg:Nat→Nat}{σ:Store}{K:ae→Prop}:∀ (l:List CI) (rg:ae),(∀ c∈l,c.op.cls≤1∨(c.op.cls=4∧c.g=none))→mg P cfg l K rg σ→∀ c∈l,c.op.cls≤1
 |[],_,_,_=>fun _ h=>by cases h
 |c::l,rg,hc,h=>by
  obtain⟨ao,_,hv⟩:=Nq h
  obtain⟨x,hx,_⟩:=Nj hv
  intro c' im
  rcases ZU.1 im with rfl|im
  ·rcases hc c' (by simp)with h1|⟨h1,h2⟩
   ·exact h1
   ·exfalso
    unfold qt at hv
    simp only[h2]at hv
    exact atb h1 hv
  ·exact Np l _ (fun c h=>hc c (by simp[h])) hx c' im
theorem rZ:∀ (l:List CI) (xs:List AV) (rg:ae) (t:Nat),(∀ c∈l,c.d≠some t)→lk (cP l xs rg) t=lk rg t
 |[],xs,rg,t,_=>rfl
 |c::l,[],rg,t,_=>rfl
 |c::l,x::xs,rg,t,h=>by
  simp only[cP]
  rw[rZ l xs _ t (fun c' hc=>h c' (ZX _ hc))]
  have hc:=h c (by simp)
  cases hd:c.d with
  |none=>rfl
  |some d=>
   have aR:d≠t:=fun e=>hc (by rw[hd,e])
   have:Nat.beq d t=false:=by rw[← YA,Nat.beq_eq];exact aR
   simp[bM,lk,this]
theorem xw:∀ (l:List CI) (xs:List AV) (rg:ae),(l.map (·.d)).Nodup→xs.length=l.length→∀ j (h:j<l.length) (h':j<xs.length) t,l[j].d=some t→lk (cP l xs rg) t=xs[j]
 |[],xs,rg,_,_,j,h,_,_,_=>absurd h (by simp)
 |c::l,[],rg,_,hl,_,_,_,_,_=>by simp at hl
 |c::l,x::xs,rg,hn,hl,j,h,h',t,hd=>by
  simp only[ZL,YL]at hn
  simp only[cP]
  cases j with
  |zero=>
   simp only[YN]at hd ⊢
   rw[rZ l xs _ t (fun c' hc e=>hn.1 (by rw[hd,← e];exact YW hc))]
   simp[bM,hd,lk,YO]
  |succ j=>exact xw l xs _ hn.2 (by simpa using hl) j (by simpa using h) (by simpa using h') t (by simpa using hd)
theorem filter_lt{α:Type}(p q:α→Bool):∀ (l:List α),(∀ x∈l,q x=true→p x=true)→(∃ x∈l,p x=true∧q x=false)→(l.filter q).length+1≤(l.filter p).length
 |[],_,⟨x,hx,_⟩=>by simp at hx
 |y::l,h,⟨x,hx,hp,hq⟩=>by
  have hle:∀ (l:List α),(∀ x∈l,q x=true→p x=true)→(l.filter q).length≤(l.filter p).length:=by
   intro l
   induction l with
   |nil=>simp
   |cons z l ih=>
    intro hz
    have:=ih (fun x hx=>hz x (by simp[hx]))
    have nh:=hz z (by simp)
    simp only[Yp]
    cases VO:q z with
    |true=>simp[nh VO];omega
    |false=>cases p z<;>simp<;>omega
  simp only[Yp]
  rcases ZU.1 hx with rfl|hx
  ·have:=hle l (fun x hx=>h x (by simp[hx]))
   simp[hp,hq];omega
  ·have ih:=filter_lt p q l (fun x hx=>h x (by simp[hx])) ⟨x,hx,hp,hq⟩
   have hy:=h y (by simp)
   cases VN:q y with
   |true=>simp[hy VN];omega
   |false=>cases p y<;>simp<;>omega
section
variable {P:Program}[Glob P]{M:Mem}{w0:Base}{w:World}{σ:Store}{rg:ae}{a:Act}{cfg:Nat→Nat}{N:Nat}
theorem yH{ops:Array Oper}:∀ (os:List Oper) (l:List CI),gd P N ops os=some l→l.length=os.length∧∀ i (h:i<os.length) (h':i<l.length),nT P N ops os[i]=some l[i]
 |[],l,h=>by simp only[gd,Z6]at h;subst h;exact⟨rfl,fun i h=>absurd h (by simp)⟩
 |o::os,l,h=>by
  simp only[gd]at h
  split at h
  ·rename_i c hc
   obtain⟨l',h1,rfl⟩:=ZS.1 h
   obtain⟨h2,h3⟩:=yH os l' h1
   refine⟨by simp[h2],fun i hi cz=> ?_⟩
   cases i with
   |zero=>exact hc
   |succ i=>simpa using h3 i (by simpa using hi) (by simpa using cz)
  ·cases h
theorem SH{ops:Array Oper}{l:List CI}(h:nW ops l=true):∃ k,∃ hk:k<l.length,si l 0=some k∧l[k].op.cls=4:=by
 unfold nW at h
 split at h
 ·cases h
 ·rename_i k e
  obtain⟨i,h1,h2,h3,_⟩:=Eh _ _ e
  obtain rfl:k=i:=by omega
  exact⟨k,h1,e,h3⟩
theorem HX{ops:Array Oper}{l:List CI}(h:nV ops l=true∨nW ops l=true):∀ c∈l,c.op.cls≤1∨(c.op.cls=4∧c.g=none):=fun c hc=>by
 have key:c.d.isSome=true∧(c.op.cls.ble 1=true∨(c.op.cls.beq 4=true∧c.g.isNone=true)):=by
  rcases h with h|h
  ·unfold nV at h
   simp only[Z3,ZJ,Zk]at h
   exact h.1.2 c hc
  ·unfold nW at h
   split at h
   ·cases h
   ·simp only[Z3,ZJ,Zk]at h
    exact h.1.2 c hc
 rcases key.2 with h|h
 ·exact .inl (Z9 h)
 ·exact .inr ⟨ZM h.1,by simpa using h.2⟩
def yr(P:Program)[Glob P](cfg:Nat→Nat)(K:ae→Prop)(l:List CI)(rg:ae)(σ:Store):Prop:=
 ∃ xs:List AV,xs.length=l.length∧(∃ fe,K fe∧∀ i,lk fe i=lk (cP l xs rg) i)∧∀ i (h:i<l.length) (h':i<xs.length),QV P cfg l[i] (cP (l.take i) (xs.take i) rg) σ xs[i]
theorem s7{l:List CI}{Q:Exit→ae→Store→Prop}(cfg:Nat→Nat)(h:(∀ c∈l,c.op.cls≤1∨(c.op.cls=4∧c.g=none))→yr P cfg (fun ao=>Q .normal ao σ) l rg σ∧∀ c∈l,c.op.cls≤1):SW P N (.dc l) Q rg σ:=by
 intro c hc M w0 a w hI hR hN hD
 obtain⟨id,ops,rfl,hl,bu,ob⟩:=dF hc
 obtain⟨hlen,uf⟩:=yH ops.toList l hl
 have pF:l.length=ops.size:=by simpa using hlen
 obtain⟨⟨xs,nc,⟨fe,hK,hF⟩,Uv⟩,cM⟩:=h (HX bu)
 replace bu:nV ops l=true:=by
  rcases bu with bu|bu
  ·exact bu
  ·exfalso
   obtain⟨k,hk,_,h4⟩:=SH bu
   have:=cM _ (Za hk)
   omega
 unfold nV at bu
 simp only[Z3,ZG]at bu
 obtain⟨⟨hnd,_⟩,mM⟩:=bu
 rw[ZJ]at mM
 have dW:∀ i (hi:i<l.length) (ho:i<ops.size),(∀ e∈ops[i].after,Region.binds .any e=true→e.on<i)∧∀ t∈l[i].reads,(∀ c∈l,c.d≠some t)∨∃ j,∃ hj:j<l.length,l[j].d=some t∧j<i∧∃ e∈ops[i].after,Region.binds .any e=true∧e.on=j:=by
  intro i hi ho
  have hm:((l[i],ops[i]),i)∈(l.zip ops.toList).zipIdx:=by
   rw[List.mem_zipIdx_iff_getElem?]
   simp[List.getElem?_zip_eq_some,hi,ho]
  have:=mM _ hm
  simp only[Z3]at this
  obtain⟨h1,h2⟩:=this
  have hb:∀ e∈ops[i].after,Region.binds .any e=true→e.on<i:=by
   intro e he jr
   have:=ZN.1 h1 e he
   simpa[jr]using this
  refine⟨hb,fun t ht=> ?_⟩
  have h3:=ZJ.1 h2 t ht
  split at h3
  ·rename_i j hj
   right
   rw[Yh]at h3
   obtain⟨m,kz,h4⟩:=h3
   simp only[Z3,beq_iff_eq]at h4
   have wT:j<l.length∧(l.map (·.d))[j]? =some (some t):=by
    obtain⟨i',h5,h6⟩:=Ej _ _ hj
    obtain rfl:j=i':=by omega
    exact⟨by have:=(ZP.1 h6).1;simpa using this,h6⟩
   obtain⟨kx,mP⟩:=wT
   refine⟨j,kx,by simpa[kx]using mP,?_,ops[i].after[m],YE kz,h4.1,h4.2⟩
   rw[← h4.2]
   exact hb _ (YE kz) h4.1
  ·rename_i hj
   left
   intro c hc e
   exact Ei _ _ hj (by rw[← e];exact YW hc)
 let RG:=cP l xs rg
 have tM:∀ j (h:j<l.length) t,l[j].d=some t→lk RG t=xs[j]'(by omega):=fun j h t ht=>xw l xs rg hnd nc j h (by omega) t ht
 have tP:∀ t,(∀ c∈l,c.d≠some t)→lk RG t=lk rg t:=fun t ht=>rZ l xs rg t ht
 have hQ:∀ i (hi:i<l.length),QV P cfg l[i] RG σ (xs[i]'(by omega)):=by
  intro i hi
  refine qF (fun t ht=> ?_) (Uv i hi (by omega))
  rcases(dW i hi (by omega)).2 t ht with hn|⟨j,hj,cr,mQ,_⟩
  ·rw[tP t hn]
   exact rZ _ _ _ _ (fun c hc=>hn c (List.mem_of_mem_take hc))
  ·rw[tM j hj t cr]
   have e1:(l.take i)[j]'(by simp;omega)=l[j]:=by simp
   have e2:(xs.take i)[j]'(by simp;omega)=xs[j]'(by omega):=by simp
   rw[← e2]
   refine xw (l.take i) (xs.take i) rg ?_ (by simp[nc]) j (by simp;omega) (by simp;omega) t (by rw[e1];exact cr)
   rw[Yb]
   exact hnd.sublist (List.take_sublist _ _)
 refine B9 ob ?_
 have main:∀ (fuel:Nat) (listed:Array Bool) (a:Act) (w:World),listed.size=ops.size→((List.range ops.size).filter (fun i=> !listed.getD i true)).length≤fuel→
   (∃ M2,M.le M2∧Inv P M2 w0 σ w∧a.tmps.size=N∧a.defers=Glob.df P∧(∀ t,(∀ c∈l,c.d≠some t)→R M2 (lk rg t) (a.tmps.getD t undef))∧∀ j (h:j<l.length) t,listed.getD j true=true→l[j].d=some t→R M2 (xs[j]'(by omega)) (a.tmps.getD t undef))→
   wpAny P .any ops (gg P M w0 N Q) fuel listed a w:=by
  intro fuel
  induction fuel with
  |zero=>
   rintro listed a w aT tY ⟨M2,g1,g2,g3,g4,g5,g6⟩
   have cw:∀ i,i<ops.size→listed.getD i true=true:=by
    intro i hi
    cases lH:listed.getD i true with
    |true=>rfl
    |false=>
     have:i∈(List.range ops.size).filter (fun i=> !listed.getD i true):=by simp only[Y9,Zg,hi,lH,X4,and_self]
     have:=List.length_pos_of_mem this
     omega
   refine⟨?_,M2,fe,σ,g1,g2,fun t=> ?_,g3,g4,hK⟩
   ·unfold Region.ready
    rw[YB]
    intro i hi
    simp[cw i (by simpa using hi)]
   ·rw[hF]
    by_cases ht:∃ j,∃ h:j<l.length,l[j].d=some t
    ·obtain⟨j,hj,cr⟩:=ht
     show R M2 (lk RG t) _
     rw[tM j hj t cr]
     exact g6 j hj t (cw j (by omega)) cr
    ·show R M2 (lk RG t) _
     rw[tP t (fun c hc e=>by
      obtain⟨j,hj,rfl⟩:=Zf.1 hc
      exact ht ⟨j,hj,e⟩)]
     exact g5 t (fun c hc e=>by
      obtain⟨j,hj,rfl⟩:=Zf.1 hc
      exact ht ⟨j,hj,e⟩)
  |succ fuel ih=>
   rintro listed a w aT tY ⟨M2,g1,g2,g3,g4,g5,g6⟩
   refine⟨fun hr=> ?_,fun i hi=> ?_⟩
   ·
    have cw:∀ i,i<ops.size→listed.getD i true=true:=by
     intro i
     induction i using Nat.strongRecOn with
     |_ i DK=>
      intro hi
      cases lH:listed.getD i true with
      |true=>rfl
      |false=>
       have:i∈Region.ready .any ops listed:=by
        unfold Region.ready
        rw[Y9]
        refine⟨by simpa using hi,?_⟩
        simp only[lH,X4,Bool.true_and,ZQ hi,Zy,ZI]
        rw[ZN]
        intro e he
        cases jr:Region.binds .any e with
        |false=>rfl
        |true=>
         have aE:=(dW i (by omega) hi).1 e he jr
         have:=DK e.on aE (by omega)
         have h2:listed.getD e.on false=true:=by
          rw[Z4]at this ⊢
          rw[ZQ (by omega)]at this ⊢
          exact this
         simp[h2]
       rw[hr]at this
       cases this
    refine⟨M2,fe,σ,g1,g2,fun t=> ?_,g3,g4,hK⟩
    rw[hF]
    by_cases ht:∃ j,∃ h:j<l.length,l[j].d=some t
    ·obtain⟨j,hj,cr⟩:=ht
     show R M2 (lk RG t) _
     rw[tM j hj t cr]
     exact g6 j hj t (cw j (by omega)) cr
    ·show R M2 (lk RG t) _
     rw[tP t (fun c hc e=>by
      obtain⟨j,hj,rfl⟩:=Zf.1 hc
      exact ht ⟨j,hj,e⟩)]
     exact g5 t (fun c hc e=>by
      obtain⟨j,hj,rfl⟩:=Zf.1 hc
      exact ht ⟨j,hj,e⟩)
   ·unfold Region.ready at hi
    rw[Y9]at hi
    obtain⟨rD,mO⟩:=hi
    have eY:i<ops.size:=by simpa using rD
    simp only[Z3,Y4,ZQ eY,Zy,ZI]at mO
    obtain⟨oo,ub⟩:=mO
    have br:i<l.length:=by omega
    have mL:nT P N ops ops[i]=some l[i]:=by have:=uf i (by simpa using eY) br;simpa using this
    obtain⟨iu,aE⟩:=vY mL
    let ao:=Sx.eC l[i].reads RG
    have rh:bB M2 ao a:=by
     intro t
     by_cases ht:t∈l[i].reads
     ·rw[z6 ht]
      rcases(dW i br eY).2 t ht with hn|⟨j,hj,cr,mQ,e,he,jr,C2⟩
      ·rw[tP t hn];exact g5 t hn
      ·rw[tM j hj t cr]
       refine g6 j hj t ?_ cr
       have:=ZN.1 ub e he
       simp only[jr,Bool.not_true,Bool.false_or,C2]at this
       rw[Z4]at this ⊢
       rw[ZQ (by omega)]at this ⊢
       exact this
     ·rw[KG ht];exact .any _
    have hq:QV P cfg l[i] ao σ (xs[i]'(by omega)):=qF (fun t ht=>(z6 ht).symm) (hQ i br)
    unfold wpOp
    simp only[ZQ eY]
    refine qU (K:=fun y σ'=>y=xs[i]'(by omega)∧σ'=σ) (E:=fun _ _=>False) mL hq g2 rh ⟨?_,fun _ _ _ _ _ _ h=>h.elim⟩
    rintro M3 x σ' v w' hM bo hx ⟨rfl,rfl⟩
    refine ih _ _ _ (by simp[aT]) ?_ ⟨M3,g1.trans hM,bo,by rw[Act.size_put];exact g3,by rw[Act.v8];exact g4,fun t ht=> ?_,fun j hj t iw cr=> ?_⟩
    ·have:=filter_lt (fun i=> !listed.getD i true) (fun k=> !(listed.setIfInBounds i true).getD k true) (List.range ops.size) (fun k _ hk=>by
      simp only[Y4]at hk ⊢
      rw[Z4,ZE]at hk
      split at hk
      ·split at hk<;>simp at hk
      ·rw[Z4];exact hk) ⟨i,rD,by simpa using oo,by
       simp only[Bool.not_eq_false']
       rw[Z4,ZE]
       simp[aT,eY]⟩
     omega
    ·have aR:ops[i].dst≠some t:=by rw[← iu];exact ht _ (Za br)
     have:=(g5 t ht).mono hM
     have e:(a.put ops[i].dst v).tmps.getD t undef=a.tmps.getD t undef:=by
      cases hd:ops[i].dst with
      |none=>rfl
      |some u=>
       have rM:u≠t:=fun e=>aR (by rw[hd,e])
       simp[Act.put,Zj rM]
     rw[e];exact this
    ·by_cases fW:j=i
     ·subst fW
      have hd:ops[j].dst=some t:=by rw[← iu];exact cr
      have Dy:t<a.tmps.size:=by rw[g3];exact aE t cr
      have e:(a.put ops[j].dst v).tmps.getD t undef=v:=by simp[hd,Act.put,Dy]
      rw[e];exact hx
     ·have zJ:listed.getD j true=true:=by
       rw[Z4,ZE,if_neg (fun e=>fW e.symm)]at iw
       rw[Z4];exact iw
      have:=(g6 j hj t zJ cr).mono hM
      have e:(a.put ops[i].dst v).tmps.getD t undef=a.tmps.getD t undef:=by
       cases hd:ops[i].dst with
       |none=>rfl
       |some u=>
        have rM:u≠t:=fun e=>by
         subst e
         have h1:l[i].d=some u:=iu.trans hd
         have lJ:=List.pairwise_iff_getElem.1 hnd
         rcases YF i j with h|h|h
         ·exact lJ i j (by simpa using br) (by simpa using hj) h (by simp[h1,cr])
         ·exact fW h.symm
         ·exact lJ j i (by simpa using hj) (by simpa using br) h (by simp[h1,cr])
        simp[Act.put,Zj rM]
      rw[e];exact this
 refine main ops.size _ a _ (by simp) ?_ ⟨M,Mem.le.refl _,hI.jJ,hN,hD,fun t _=>hR t,fun j hj t iw _=> ?_⟩
 ·exact YJ (X3 _ _) (by simp)
 ·exfalso
  have rE:j<ops.size:=by omega
  simp[rE]at iw
where
 z6 {l:List Nat} {rg:ae} {t:Nat} (h:t∈l):lk (Sx.eC l rg) t=lk rg t:=by
  induction l with
  |nil=>cases h
  |cons u l ih=>
   simp only[Sx.eC,lk]
   cases hb:Nat.beq u t with
   |true=>rw[ZM hb];rfl
   |false=>
    rcases ZU.1 h with rfl|h
    ·simp[YO]at hb
    ·exact ih h
 KG {l:List Nat} {rg:ae} {t:Nat} (h:t∉l):lk (Sx.eC l rg) t= .any:=by
  induction l with
  |nil=>rfl
  |cons u l ih=>
   simp only[Sx.eC,lk]
   cases hb:Nat.beq u t with
   |true=>exact absurd (ZU.2 (.inl (ZM hb).symm)) h
   |false=>exact ih (fun hm=>h (ZX _ hm))
theorem Oe{l:List CI}{Q:Exit→ae→Store→Prop}(cfg:Nat→Nat)(h:mg P cfg l (fun ao=>Q .normal ao σ) rg σ):SW P N (.dc l) Q rg σ:=
 s7 cfg fun hc=>⟨Nn l rg rg (fun _=>rfl) h,Np l rg hc h⟩
end
end Go.Sx
