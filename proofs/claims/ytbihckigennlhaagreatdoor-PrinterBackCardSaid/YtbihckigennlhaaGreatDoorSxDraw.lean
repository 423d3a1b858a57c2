/-
  The layer Sx, eleventh part: a region whose order is open and whose operations only compute.
-/
import Derived.Test.YtbihckigennlhaaGreatDoorSxFn
set_option linter.unusedVariables false
set_option linter.unusedSimpArgs false
set_option linter.unusedSectionVars false
namespace Go.Sx
open Go.RowKit
theorem ev_local{rg rg':Regs}{x:Operand}(h:∀ t∈tmpsOf [x],lk rg t=lk rg' t):ev rg x=ev rg' x:=by
 cases x<;>simp_all [ev,tmpsOf]
theorem tmpsOf_cons(x:Operand)(l:List Operand):tmpsOf (x::l)=tmpsOf [x]++tmpsOf l:=by cases x<;>rfl
theorem tmpsOf_append(l l':List Operand):tmpsOf (l++l')=tmpsOf l++tmpsOf l':=by
 induction l with
 |nil=>rfl
 |cons x l ih=>rw[List.cons_append,tmpsOf_cons,tmpsOf_cons x l,ih,List.append_assoc]
theorem evs_local{rg rg':Regs}:∀ (l:List Operand),(∀ t∈tmpsOf l,lk rg t=lk rg' t)→evs rg l=evs rg' l
 |[],_=>rfl
 |x::l,h=>by
  rw[tmpsOf_cons]at h
  simp only[evs]
  rw[ev_local fun t ht=>h t (List.mem_append_left _ ht),evs_local l fun t ht=>h t (List.mem_append_right _ ht)]
theorem evp_local{rg rg':Regs}:∀ (l:List (Nat×Nat×Operand)),(∀ t∈tmpsOf (l.map (·.2.2)),lk rg t=lk rg' t)→evp rg l=evp rg' l
 |[],_=>rfl
 |(o,n,x)::l,h=>by
  rw[List.map_cons,tmpsOf_cons]at h
  simp only[evp]
  rw[ev_local fun t ht=>h t (List.mem_append_left _ ht),evp_local l fun t ht=>h t (List.mem_append_right _ ht)]
theorem vcO_local{P:Program}[Glob P]{cfg:Nat→Nat}{d:Option Nat}{rg rg':Regs}{σ:Store}{K:AV→Store→Prop}{E:List PanicEntry→Store→Prop}{op:IOp}(h:∀ t∈tmpsOf op.opers,lk rg t=lk rg' t):
  vcO P cfg d rg σ K E op=vcO P cfg d rg' σ K E op:=by
 have e1:∀ x,x∈op.opers→ev rg x=ev rg' x:=fun x hx=>ev_local fun t ht=>h t (by
  obtain⟨l1,l2,e⟩:=List.append_of_mem hx
  rw[e,tmpsOf_append,tmpsOf_cons]
  exact List.mem_append_right _ (List.mem_append_left _ ht))
 cases op with
 |build z parts=>simp only[vcO];rw[evp_local parts h]
 |mksl t esz parts=>simp only[vcO];rw[evs_local parts h]
 |call f args=>simp only[vcO];rw[evs_local args h]
 |callv f args=>
  have hf:ev rg f=ev rg' f:=e1 f (by simp[IOp.opers])
  have ha:evs rg args=evs rg' args:=evs_local args fun t ht=>h t (by simp only[IOp.opers];rw[tmpsOf_cons];exact List.mem_append_right _ ht)
  simp only[vcO];rw[hf,ha]
 |mkfn fn first captured=>
  have hf:evs rg first=evs rg' first:=evs_local first fun t ht=>h t (by simp only[IOp.opers];rw[tmpsOf_append];exact List.mem_append_left _ ht)
  have ha:evs rg captured=evs rg' captured:=evs_local captured fun t ht=>h t (by simp only[IOp.opers];rw[tmpsOf_append];exact List.mem_append_right _ ht)
  simp only[vcO];rw[hf,ha]
 |slice esz x lo hi=>
  have hx:ev rg x=ev rg' x:=e1 x (by simp[IOp.opers])
  have hl:lo.map (ev rg)=lo.map (ev rg'):=by cases lo with
   |none=>rfl
   |some y=>simp only[Option.map_some];rw[e1 y (by simp[IOp.opers])]
  have hh:hi.map (ev rg)=hi.map (ev rg'):=by cases hi with
   |none=>rfl
   |some y=>simp only[Option.map_some];rw[e1 y (by simp[IOp.opers])]
  simp only[vcO];rw[hx,hl,hh]
 |len s x=>cases s<;>(simp only[vcO];rw[e1 x (by simp[IOp.opers])])
 |alloc t z=>rfl
 |extq op ty ti args=>simp only[vcO];rw[evs_local args h]
 |exts op ty ti args=>simp only[vcO];rw[evs_local args h]
 |pick c x y=>simp only[vcO];rw[e1 c (by simp[IOp.opers]),e1 x (by simp[IOp.opers]),e1 y (by simp[IOp.opers])]
 |store n x y=>simp only[vcO];rw[e1 x (by simp[IOp.opers]),e1 y (by simp[IOp.opers])]
 |bin op x y=>simp only[vcO];rw[e1 x (by simp[IOp.opers]),e1 y (by simp[IOp.opers])]
 |eqb n k x y=>simp only[vcO];rw[e1 x (by simp[IOp.opers]),e1 y (by simp[IOp.opers])]
 |eqs n k x y=>simp only[vcO];rw[e1 x (by simp[IOp.opers]),e1 y (by simp[IOp.opers])]
 |iaddr n x y=>simp only[vcO];rw[e1 x (by simp[IOp.opers]),e1 y (by simp[IOp.opers])]
 |iaddrA n k x y=>simp only[vcO];rw[e1 x (by simp[IOp.opers]),e1 y (by simp[IOp.opers])]
 |idxs x y=>simp only[vcO];rw[e1 x (by simp[IOp.opers]),e1 y (by simp[IOp.opers])]
 |append t n k z x y=>simp only[vcO];rw[e1 x (by simp[IOp.opers]),e1 y (by simp[IOp.opers])]
 |max2 x y=>simp only[vcO];rw[e1 x (by simp[IOp.opers]),e1 y (by simp[IOp.opers])]
 |min2 x y=>simp only[vcO];rw[e1 x (by simp[IOp.opers]),e1 y (by simp[IOp.opers])]
 |mv x=>simp only[vcO];rw[e1 x (by simp[IOp.opers])]
 |box t x=>simp only[vcO];rw[e1 x (by simp[IOp.opers])]
 |load g n x=>simp only[vcO];rw[e1 x (by simp[IOp.opers])]
 |nilck x=>simp only[vcO];rw[e1 x (by simp[IOp.opers])]
 |un op x=>simp only[vcO];rw[e1 x (by simp[IOp.opers])]
 |cvint k x=>simp only[vcO];rw[e1 x (by simp[IOp.opers])]
 |cvstr x=>simp only[vcO];rw[e1 x (by simp[IOp.opers])]
 |mkifc t x=>simp only[vcO];rw[e1 x (by simp[IOp.opers])]
 |panic x=>simp only[vcO];rw[e1 x (by simp[IOp.opers])]
 |faddr n x=>simp only[vcO];rw[e1 x (by simp[IOp.opers])]
 |field g o n x=>simp only[vcO];rw[e1 x (by simp[IOp.opers])]
 |extract x i=>simp only[vcO];rw[e1 x (by simp[IOp.opers])]
def QV(P:Program)[Glob P](cfg:Nat→Nat)(c:CI)(rg:Regs)(σ:Store)(x:AV):Prop:=vcG P cfg c (fun y σ'=>y=x∧σ'=σ) (fun _ _=>False) rg σ
theorem QV_local{P:Program}[Glob P]{cfg:Nat→Nat}{c:CI}{rg rg':Regs}{σ:Store}{x:AV}(h:∀ t∈c.reads,lk rg t=lk rg' t)(hq:QV P cfg c rg σ x):QV P cfg c rg' σ x:=by
 unfold QV vcG at *
 have h1:∀ K E,vcO P cfg c.d rg σ K E c.op=vcO P cfg c.d rg' σ K E c.op:=fun K E=>vcO_local fun t ht=>h t (List.mem_append_left _ ht)
 cases hg:c.g with
 |none=>rw[hg]at hq;simp only at hq ⊢;rw[← h1];exact hq
 |some p=>
  obtain⟨u,want⟩:=p
  have hu:lk rg u=lk rg' u:=h u (List.mem_append_right _ (by simp[hg]))
  rw[hg]at hq
  simp only at hq ⊢
  rw[← hu]
  split<;>rename_i e<;>simp only[e]at hq
  ·rw[← h1];exact hq
  ·exact hq
def QCall(P:Program)[Glob P](f:FuncId)(as:List AV)(K:AV→Prop):Prop:=∃ r,Pure P f as r∧K r
theorem qcall_congr{P:Program}[Glob P]{f:FuncId}{as as':List AV}{K:AV→Prop}(h:as=as'):QCall P f as K=QCall P f as' K:=by rw[h]
def vcOQ(P:Program)[Glob P](cfg:Nat→Nat)(d:Option Nat)(rg:Regs)(σ:Store)(K:AV→Prop):IOp→Prop
 | .box .. | .alloc .. | .store .. | .append .. | .exts .. | .panic .. =>False
 | .extq op ty ti args=>∃ r,OpP P op ty ti args (evs rg args) r∧K r
 | .callv f args=>match ev rg f with
  | .v (.func (.func f) a c)=>callable P f=true∧QCall P f (a.toList.map .v++evs rg args++c.toList.map .v) K
  | .cl f a c=>callable P f=true∧QCall P f (a++evs rg args++c) K
  |_=>False
 | .call f args=>QCall P f (evs rg args) K
 | .mksl _ esz parts=>match rowsOf esz (evs rg parts)with
  |some rows=>rows.length≤1000000∧match cfg (d.getD 0)with
   |0=>K (.sl true esz rows)
   |3=>K (.fl esz rows)
   |_=>False
  |none=>False
 | .len true x=>match ev rg x with
  | .v (.string s)=>K (.v (.int .i64 s.size))
  |_=>False
 | .len false x=>match ev rg x with
  | .v (.slice _ n _)=>K (.v (.int .i64 n))
  | .ms _ _ _ n _=>K (.v (.int .i64 n))
  | .sl _ _ rows=>K (.v (.int .i64 rows.length))
  | .own _ _ _ _ _ rows=>K (.v (.int .i64 rows.length))
  |_=>False
 |op=>vcO P cfg d rg σ (fun x _=>K x) (fun _ _=>False) op
theorem vcBin_det{op:BinOp}{a b:Value}{K:Value→Prop}(h:vcBin op a b K):∃ x,K x∧∀ K':Value→Prop,K' x→vcBin op a b K':=by
 unfold vcBin at h
 split at h
 ·cases op<;>simp only at h<;>simp only[vcBin]
  case quo=>exact⟨_,h.2.2,fun K' hk=>⟨h.1,h.2.1,hk⟩⟩
  case rem=>exact⟨_,h.2.2,fun K' hk=>⟨h.1,h.2.1,hk⟩⟩
  case shl=>exact⟨_,h.2.2,fun K' hk=>⟨h.1,h.2.1,hk⟩⟩
  case shr=>exact⟨_,h.2.2,fun K' hk=>⟨h.1,h.2.1,hk⟩⟩
  all_goals exact⟨_,h.2,fun K' hk=>⟨h.1,hk⟩⟩
 ·cases op<;>simp only at h<;>simp only[vcBin]
  case add=>exact⟨_,h.2,fun K' hk=>⟨h.1,hk⟩⟩
  case eql=>exact⟨_,h,fun K' hk=>hk⟩
  case neq=>exact⟨_,h,fun K' hk=>hk⟩
  case lss=>exact⟨_,h,fun K' hk=>hk⟩
  case leq=>exact⟨_,h,fun K' hk=>hk⟩
  case gtr=>exact⟨_,h,fun K' hk=>hk⟩
  case geq=>exact⟨_,h,fun K' hk=>hk⟩
 ·exact h.elim
theorem vcOQ_det{P:Program}[Glob P]{cfg:Nat→Nat}{d:Option Nat}{rg:Regs}{σ:Store}{K:AV→Prop}{op:IOp}(h:vcOQ P cfg d rg σ K op):
  ∃ x,K x∧∀ (K':AV→Store→Prop) (E':List PanicEntry→Store→Prop),K' x σ→vcO P cfg d rg σ K' E' op:=by
 cases op with
 |box t x=>exact h.elim
 |alloc t z=>exact h.elim
 |store n x y=>exact h.elim
 |append t n k z x y=>exact h.elim
 |exts op ty ti args=>exact h.elim
 |panic x=>exact h.elim
 |extq op ty ti args=>obtain⟨r,hp,hk⟩:=h;exact⟨r,hk,fun K' E' h=>(hp.sp σ).mono fun x σ' ⟨e1,e2⟩=>by subst e1 e2;exact h⟩
 |call f args=>obtain⟨r,hp,hk⟩:=h;exact⟨r,hk,fun K' E' h=>callP_pure hp h⟩
 |callv f args=>
  simp only[vcOQ]at h
  simp only[vcO]
  split at h
  ·rename_i g b c he
   obtain⟨hcl,r,hp,hk⟩:=h
   (try rw[he])
   exact⟨r,hk,fun K' E' h=>⟨hcl,callP_pure hp h⟩⟩
  ·rename_i g b c he
   obtain⟨hcl,r,hp,hk⟩:=h
   (try rw[he])
   exact⟨r,hk,fun K' E' h=>⟨hcl,callP_pure hp h⟩⟩
  ·exact h.elim
 |mksl t esz parts=>
  simp only[vcOQ]at h
  simp only[vcO]
  split at h
  ·rename_i rows he
   (try rw[he])
   obtain⟨hn,h⟩:=h
   split at h
   ·rename_i e;exact⟨_,h,fun K' E' hk=>⟨hn,by simp only[e];exact hk⟩⟩
   ·rename_i e;exact⟨_,h,fun K' E' hk=>⟨hn,by simp only[e];exact hk⟩⟩
   ·exact h.elim
  ·exact h.elim
 |len s x=>
  cases s<;>simp only[vcOQ]at h<;>simp only[vcO]
  ·split at h
   ·rename_i b n c he;(try rw[he]);exact⟨_,h,fun K' E' hk=>hk⟩
   ·rename_i tg b o n c he;(try rw[he]);exact⟨_,h,fun K' E' hk=>hk⟩
   ·rename_i nn ez rows he;(try rw[he]);exact⟨_,h,fun K' E' hk _=>hk⟩
   ·rename_i ez tg b u c rows he;(try rw[he]);exact⟨_,h,fun K' E' hk _=>hk⟩
   ·exact h.elim
  ·split at h
   ·rename_i s he;(try rw[he]);exact⟨_,h,fun K' E' hk=>hk⟩
   ·exact h.elim
 |mv x=>exact⟨_,h,fun K' E' hk=>hk⟩
 |mkifc t x=>exact⟨_,h,fun K' E' hk=>hk⟩
 |pick c x y=>
  simp only[vcOQ,vcO]at h
  simp only[vcO]
  split at h
  ·rename_i t he;(try rw[he]);exact⟨_,h,fun K' E' hk=>hk⟩
  ·exact h.elim
 |build z parts=>
  simp only[vcOQ,vcO]at h
  simp only[vcO]
  split at h
  ·rename_i t he;(try rw[he]);exact⟨_,h,fun K' E' hk=>hk⟩
  ·exact h.elim
 |load g n x=>
  simp only[vcOQ,vcO]at h
  simp only[vcO]
  split at h
  ·rename_i tg b o he
   (try rw[he])
   split at h
   ·rename_i b' l hb
    obtain⟨rfl,h⟩:=h
    (try simp only[hb])
    cases g with
    |true=>simp only[if_true]at h ⊢;exact⟨_,h.2,fun K' E' hk=>⟨trivial,h.1,hk⟩⟩
    |false=>
     simp only[Bool.false_eq_true,if_false]at h ⊢
     split at h
     ·rename_i y hy;(try rw[hy]);exact⟨_,h,fun K' E' hk=>⟨trivial,hk⟩⟩
     ·exact h.elim
   ·exact h.elim
  ·rename_i l he
   (try rw[he])
   cases g with
   |true=>simp only[if_true]at h ⊢;exact⟨_,h.2,fun K' E' hk=>⟨h.1,hk⟩⟩
   |false=>
    simp only[Bool.false_eq_true,if_false]at h ⊢
    split at h
    ·rename_i y hy;(try rw[hy]);exact⟨_,h,fun K' E' hk=>hk⟩
    ·exact h.elim
  ·rename_i gv he
   (try rw[he])
   split at h
   ·rename_i l hl
    (try simp only[hl])
    cases g with
    |true=>simp only[if_true]at h ⊢;exact⟨_,h.2,fun K' E' hk=>⟨h.1,hk⟩⟩
    |false=>
     simp only[Bool.false_eq_true,if_false]at h ⊢
     split at h
     ·rename_i y hy;(try rw[hy]);exact⟨_,h,fun K' E' hk=>hk⟩
     ·exact h.elim
   ·exact h.elim
  ·exact h.elim
 |nilck x=>
  simp only[vcOQ,vcO]at h
  simp only[vcO]
  split at h<;>first|exact h.elim|(rename_i he;(try rw[he]);exact⟨_,h,fun K' E' hk=>hk⟩)
 |bin op x y=>
  simp only[vcOQ,vcO]at h
  simp only[vcO]
  split at h
  ·rename_i u v hu hv
   (try rw[hu,hv])
   obtain⟨z,hz,hz'⟩:=vcBin_det h
   exact⟨.v z,hz,fun K' E' hk=>hz' _ hk⟩
  ·exact h.elim
 |eqb n k x y=>
  simp only[vcOQ,vcO]at h
  simp only[vcO]
  split at h
  ·rename_i t he;(try rw[he]);exact⟨_,h,fun K' E' hk=>hk⟩
  ·exact h.elim
 |eqs n k x y=>
  simp only[vcOQ,vcO]at h
  simp only[vcO]
  split at h
  ·rename_i xs ys h1 h2
   (try rw[h1,h2])
   split at h
   ·rename_i t he;(try simp only[he]);exact⟨_,h,fun K' E' hk=>hk⟩
   ·exact h.elim
  ·exact h.elim
 |un op x=>
  simp only[vcOQ,vcO]at h
  simp only[vcO]
  split at h
  ·rename_i u hu
   (try rw[hu])
   split at h
   ·rename_i t he;(try simp only[he]);exact⟨_,h,fun K' E' hk=>hk⟩
   ·exact h.elim
  ·exact h.elim
 |cvint k x=>
  simp only[vcOQ,vcO]at h
  simp only[vcO]
  split at h
  ·rename_i k' n he;(try rw[he]);exact⟨_,h,fun K' E' hk=>hk⟩
  ·exact h.elim
 |cvstr x=>
  simp only[vcOQ,vcO]at h
  simp only[vcO]
  split at h
  ·rename_i s he;(try rw[he]);exact⟨_,h,fun K' E' hk=>hk⟩
  ·exact h.elim
 |mkfn fn first captured=>
  simp only[vcOQ,vcO]at h
  simp only[vcO]
  split at h
  ·rename_i u v h1 h2;(try rw[h1,h2]);exact⟨_,h,fun K' E' hk=>hk⟩
  ·split at h
   ·exact⟨_,h,fun K' E' hk=>hk⟩
   ·exact h.elim
 |slice esz x lo hi=>
  simp only[vcOQ,vcO]at h
  simp only[vcO]
  split at h
  ·rename_i rlo rhi h1 h2
   (try rw[h1,h2])
   split at h
   ·rename_i nn e rows he;(try simp only[he]);exact⟨_,h.2.2.2.2,fun K' E' hk=>⟨h.1,h.2.1,h.2.2.1,h.2.2.2.1,hk⟩⟩
   ·rename_i e tg b u c rows he;(try simp only[he]);exact⟨_,h.2.2.2.2,fun K' E' hk=>⟨h.1,h.2.1,h.2.2.1,h.2.2.2.1,hk⟩⟩
   ·rename_i he;(try simp only[he]);exact⟨_,h.2.2,fun K' E' hk=>⟨h.1,h.2.1,hk⟩⟩
   ·exact h.elim
  ·exact h.elim
 |faddr off x=>
  simp only[vcOQ,vcO]at h
  simp only[vcO]
  split at h<;>first|exact h.elim|(rename_i he;(try rw[he]);exact⟨_,h,fun K' E' hk=>hk⟩)
 |field g o n x=>
  simp only[vcOQ,vcO]at h
  simp only[vcO]
  split at h
  ·rename_i l hl
   (try rw[hl])
   obtain⟨hlt,h⟩:=h
   cases g with
   |true=>simp only[if_true]at h ⊢;exact⟨_,h,fun K' E' hk=>⟨hlt,hk⟩⟩
   |false=>
    simp only[Bool.false_eq_true,if_false]at h ⊢
    split at h
    ·rename_i y hy;(try rw[hy]);exact⟨_,h,fun K' E' hk=>⟨hlt,hk⟩⟩
    ·exact h.elim
  ·exact h.elim
 |iaddr esz x i=>
  simp only[vcOQ,vcO]at h
  simp only[vcO]
  split at h
  ·rename_i k j hi
   (try rw[hi])
   split at h
   ·rename_i nn e rows he;(try simp only[he]);exact⟨_,h.2.2.2,fun K' E' hk=>⟨h.1,h.2.1,h.2.2.1,hk⟩⟩
   ·rename_i e tg b u c rows he;(try simp only[he]);exact⟨_,h.2.2.2,fun K' E' hk=>⟨h.1,h.2.1,h.2.2.1,hk⟩⟩
   ·rename_i tg b o n c he;(try simp only[he]);exact⟨_,h.2.2,fun K' E' hk=>⟨h.1,h.2.1,hk⟩⟩
   ·exact h.elim
  ·exact h.elim
 |iaddrA n esz x i=>
  simp only[vcOQ,vcO]at h
  simp only[vcO]
  split at h
  ·rename_i k j hi
   (try rw[hi])
   split at h
   ·rename_i tg b o he;(try simp only[he]);exact⟨_,h.2.2,fun K' E' hk=>⟨h.1,h.2.1,hk⟩⟩
   ·rename_i l he;(try simp only[he]);exact⟨_,h.2.2,fun K' E' hk=>⟨h.1,h.2.1,hk⟩⟩
   ·rename_i g o he;(try simp only[he]);obtain⟨l,ha,h0,h1,h2,h3⟩:=h;exact⟨_,h3,fun K' E' hk=>⟨l,ha,h0,h1,h2,hk⟩⟩
   ·exact h.elim
  ·exact h.elim
 |idxs x i=>
  simp only[vcOQ,vcO]at h
  simp only[vcO]
  split at h
  ·rename_i k j s h1 h2
   (try rw[h1,h2])
   obtain⟨hlt,h⟩:=h
   exact⟨_,h,fun K' E' hk=>⟨hlt,hk⟩⟩
  ·exact h.elim
 |extract x i=>
  simp only[vcOQ,vcO]at h
  simp only[vcO]
  split at h
  ·rename_i xs he
   (try rw[he])
   split at h
   ·rename_i y hy;(try simp only[hy]);exact⟨_,h,fun K' E' hk=>hk⟩
   ·exact h.elim
  ·rename_i xs he
   (try rw[he])
   split at h
   ·rename_i y hy;(try simp only[hy]);exact⟨_,h,fun K' E' hk=>hk⟩
   ·exact h.elim
  ·exact h.elim
 |max2 x y=>
  simp only[vcOQ,vcO]at h
  simp only[vcO]
  split at h
  ·rename_i u v h1 h2
   (try rw[h1,h2])
   split at h
   ·rename_i t he;(try simp only[he]);exact⟨_,h,fun K' E' hk=>hk⟩
   ·exact h.elim
  ·exact h.elim
 |min2 x y=>
  simp only[vcOQ,vcO]at h
  simp only[vcO]
  split at h
  ·rename_i u v h1 h2
   (try rw[h1,h2])
   split at h
   ·rename_i t he;(try simp only[he]);exact⟨_,h,fun K' E' hk=>hk⟩
   ·exact h.elim
  ·exact h.elim
def vcGQ(P:Program)[Glob P](cfg:Nat→Nat)(c:CI)(K:AV→Prop)(rg:Regs)(σ:Store):Prop:=
 match c.g with
 |none=>vcOQ P cfg c.d rg σ K c.op
 |some (t,want)=>match lk rg t with
  | .v (.bool b)=>(b=want→vcOQ P cfg c.d rg σ K c.op)∧(b= !want→K (.v undef))
  | .v (.tuple _)=>K (.v undef)
  |_=>False
theorem vcGQ_det{P:Program}[Glob P]{cfg:Nat→Nat}{c:CI}{rg:Regs}{σ:Store}{K:AV→Prop}(h:vcGQ P cfg c K rg σ):∃ x,K x∧QV P cfg c rg σ x:=by
 unfold vcGQ at h
 unfold QV vcG
 cases hg:c.g with
 |none=>rw[hg]at h;obtain⟨x,hx,hv⟩:=vcOQ_det h;exact⟨x,hx,hv _ _ ⟨rfl,rfl⟩⟩
 |some p=>
  obtain⟨u,want⟩:=p
  rw[hg]at h
  simp only at h ⊢
  split at h
  ·rename_i b he
   by_cases hb:b=want
   ·obtain⟨x,hx,hv⟩:=vcOQ_det (h.1 hb)
    refine⟨x,hx,?_⟩
    simp only[he]
    exact⟨fun _=>hv _ _ ⟨rfl,rfl⟩,fun h'=>by subst hb;cases b<;>simp at h'⟩
   ·have hb':b= !want:=by cases b<;>cases want<;>simp_all
    refine⟨_,h.2 hb',?_⟩
    simp only[he]
    exact⟨fun h'=>absurd h' hb,fun _=>by simp⟩
  ·rename_i vs he
   refine⟨_,h,?_⟩
   simp only[he]
   simp
  ·exact h.elim
def vcQ(P:Program)[Glob P](cfg:Nat→Nat):List CI→(K:Regs→Prop)→Regs→Store→Prop
 |[],K,rg,_=>K rg
 |c::l,K,rg,σ=>match c.g with
  |none=>vcOQ P cfg c.d rg σ (fun x=>vcQ P cfg l K (putR c.d x rg) σ) c.op
  |some (t,want)=>match lk rg t with
   | .v (.bool b)=>Gd b want (vcOQ P cfg c.d ((t,.v (.bool want))::rg) σ (fun x=>vcQ P cfg l K (putR c.d x ((t,.v (.bool want))::rg)) σ) c.op)
     (vcQ P cfg l K (putR c.d (.v undef) ((t,.v (.bool !want))::rg)) σ)
   | .v (.tuple _)=>vcQ P cfg l K (putR c.d (.v undef) rg) σ
   |_=>False
theorem vcQ_guard{P:Program}[Glob P]{cfg:Nat→Nat}{c:CI}{l:List CI}{K:Regs→Prop}{rg:Regs}{σ:Store}(h:vcQ P cfg (c::l) K rg σ):
  ∃ rg',(∀ i,lk rg' i=lk rg i)∧vcGQ P cfg c (fun x=>vcQ P cfg l K (putR c.d x rg') σ) rg' σ:=by
 simp only[vcQ]at h
 split at h
 ·rename_i hg
  exact⟨rg,fun _=>rfl,by unfold vcGQ;rw[hg];exact h⟩
 ·rename_i t want hg
  split at h
  ·rename_i b hb
   by_cases hbw:b=want
   ·subst hbw
    have e:lk ((t,AV.v (.bool b))::rg) t= .v (.bool b):=by simp[lk,Nat.beq_refl]
    refine⟨_,lk_self hb,?_⟩
    unfold vcGQ
    rw[hg]
    simp only[e]
    exact⟨fun _=>h.l rfl,fun h'=>by cases b<;>simp at h'⟩
   ·have hb':b= !want:=by cases b<;>cases want<;>simp_all
    subst hb'
    have e:lk ((t,AV.v (.bool !want))::rg) t= .v (.bool !want):=by simp[lk,Nat.beq_refl]
    refine⟨_,lk_self hb,?_⟩
    unfold vcGQ
    rw[hg]
    simp only[e]
    exact⟨fun h'=>absurd h' hbw,fun _=>h.r rfl⟩
  ·rename_i vs hb
   exact⟨rg,fun _=>rfl,by unfold vcGQ;rw[hg];simp only[hb];exact h⟩
  ·exact h.elim
theorem lk_put_congr{rg rg':Regs}(h:∀ i,lk rg' i=lk rg i)(d:Option Nat)(x:AV)(i:Nat):lk (putR d x rg') i=lk (putR d x rg) i:=by
 cases d with
 |none=>exact h i
 |some d=>simp only[putR,lk];rw[h]
theorem lk_cons(i j:Nat)(x:AV)(r:Regs):lk ((i,x)::r) j=if i=j then x else lk r j:=by
 simp only[lk]
 cases h:Nat.beq i j with
 |true=>rw[if_pos (Nat.eq_of_beq_eq_true h)];rfl
 |false=>rw[if_neg (fun e=>by subst e;simp[Nat.beq_refl]at h)];rfl
def puts:List CI→List AV→Regs→Regs
 |c::l,x::xs,rg=>puts l xs (putR c.d x rg)
 |_,_,rg=>rg
theorem vcQ_chain{P:Program}[Glob P]{cfg:Nat→Nat}{σ:Store}{K:Regs→Prop}:∀ (l:List CI) (rg rg0:Regs),(∀ i,lk rg i=lk rg0 i)→vcQ P cfg l K rg σ→
  ∃ xs:List AV,xs.length=l.length∧(∃ rgF,K rgF∧∀ i,lk rgF i=lk (puts l xs rg0) i)∧∀ i (h:i<l.length) (h':i<xs.length),QV P cfg l[i] (puts (l.take i) (xs.take i) rg0) σ xs[i]
 |[],rg,rg0,he,h=>⟨[],rfl,⟨rg,h,he⟩,fun i h=>absurd h (by simp)⟩
 |c::l,rg,rg0,he,h=>by
  obtain⟨rg',he',hv⟩:=vcQ_guard h
  obtain⟨x,hx,hq⟩:=vcGQ_det hv
  have he2:∀ i,lk rg' i=lk rg0 i:=fun i=>(he' i).trans (he i)
  obtain⟨xs,h1,h2,h3⟩:=vcQ_chain l _ (putR c.d x rg0) (lk_put_congr he2 c.d x) hx
  refine⟨x::xs,by simp[h1],h2,fun i hi hi'=> ?_⟩
  cases i with
  |zero=>exact QV_local (fun t _=>he2 t) hq
  |succ i=>simpa[puts]using h3 i (by simpa using hi) (by simpa using hi')
theorem vcOQ_4{P:Program}[Glob P]{cfg:Nat→Nat}{d:Option Nat}{rg:Regs}{σ:Store}{K:AV→Prop}{op:IOp}(h4:op.cls=4)(h:vcOQ P cfg d rg σ K op):False:=by
 cases op<;>simp only[IOp.cls,reduceCtorEq,Nat.reduceEqDiff,Nat.zero_ne_add_one]at h4<;>exact h
theorem vcQ_cls{P:Program}[Glob P]{cfg:Nat→Nat}{σ:Store}{K:Regs→Prop}:∀ (l:List CI) (rg:Regs),(∀ c∈l,c.op.cls≤1∨(c.op.cls=4∧c.g=none))→vcQ P cfg l K rg σ→∀ c∈l,c.op.cls≤1
 |[],_,_,_=>fun _ h=>by cases h
 |c::l,rg,hc,h=>by
  obtain⟨rg',_,hv⟩:=vcQ_guard h
  obtain⟨x,hx,_⟩:=vcGQ_det hv
  intro c' hc'
  rcases List.mem_cons.1 hc' with rfl|hc'
  ·rcases hc c' (by simp)with h1|⟨h1,h2⟩
   ·exact h1
   ·exfalso
    unfold vcGQ at hv
    simp only[h2]at hv
    exact vcOQ_4 h1 hv
  ·exact vcQ_cls l _ (fun c h=>hc c (by simp[h])) hx c' hc'
theorem lk_puts_not:∀ (l:List CI) (xs:List AV) (rg:Regs) (t:Nat),(∀ c∈l,c.d≠some t)→lk (puts l xs rg) t=lk rg t
 |[],xs,rg,t,_=>rfl
 |c::l,[],rg,t,_=>rfl
 |c::l,x::xs,rg,t,h=>by
  simp only[puts]
  rw[lk_puts_not l xs _ t (fun c' hc=>h c' (List.mem_cons_of_mem _ hc))]
  have hc:=h c (by simp)
  cases hd:c.d with
  |none=>rfl
  |some d=>
   have hne:d≠t:=fun e=>hc (by rw[hd,e])
   have:Nat.beq d t=false:=by rw[← Bool.not_eq_true,Nat.beq_eq];exact hne
   simp[putR,lk,this]
theorem lk_puts:∀ (l:List CI) (xs:List AV) (rg:Regs),(l.map (·.d)).Nodup→xs.length=l.length→∀ j (h:j<l.length) (h':j<xs.length) t,l[j].d=some t→lk (puts l xs rg) t=xs[j]
 |[],xs,rg,_,_,j,h,_,_,_=>absurd h (by simp)
 |c::l,[],rg,_,hl,_,_,_,_,_=>by simp at hl
 |c::l,x::xs,rg,hn,hl,j,h,h',t,hd=>by
  simp only[List.map_cons,List.nodup_cons]at hn
  simp only[puts]
  cases j with
  |zero=>
   simp only[List.getElem_cons_zero]at hd ⊢
   rw[lk_puts_not l xs _ t (fun c' hc e=>hn.1 (by rw[hd,← e];exact List.mem_map_of_mem hc))]
   simp[putR,hd,lk,Nat.beq_refl]
  |succ j=>exact lk_puts l xs _ hn.2 (by simpa using hl) j (by simpa using h) (by simpa using h') t (by simpa using hd)
theorem filter_lt{α:Type}(p q:α→Bool):∀ (l:List α),(∀ x∈l,q x=true→p x=true)→(∃ x∈l,p x=true∧q x=false)→(l.filter q).length+1≤(l.filter p).length
 |[],_,⟨x,hx,_⟩=>by simp at hx
 |y::l,h,⟨x,hx,hp,hq⟩=>by
  have hle:∀ (l:List α),(∀ x∈l,q x=true→p x=true)→(l.filter q).length≤(l.filter p).length:=by
   intro l
   induction l with
   |nil=>simp
   |cons z l ih=>
    intro hz
    have:=ih (fun x hx=>hz x (by simp[hx]))
    have hz0:=hz z (by simp)
    simp only[List.filter_cons]
    cases hqz:q z with
    |true=>simp[hz0 hqz];omega
    |false=>cases p z<;>simp<;>omega
  simp only[List.filter_cons]
  rcases List.mem_cons.1 hx with rfl|hx
  ·have:=hle l (fun x hx=>h x (by simp[hx]))
   simp[hp,hq];omega
  ·have ih:=filter_lt p q l (fun x hx=>h x (by simp[hx])) ⟨x,hx,hp,hq⟩
   have hy:=h y (by simp)
   cases hqy:q y with
   |true=>simp[hy hqy];omega
   |false=>cases p y<;>simp<;>omega
section
variable {P:Program}[Glob P]{M:Mem}{w0:Base}{w:World}{σ:Store}{rg:Regs}{a:Act}{cfg:Nat→Nat}{N:Nat}
theorem compL_get{ops:Array Oper}:∀ (os:List Oper) (l:List CI),compL P N ops os=some l→l.length=os.length∧∀ i (h:i<os.length) (h':i<l.length),compI P N ops os[i]=some l[i]
 |[],l,h=>by simp only[compL,Option.some.injEq]at h;subst h;exact⟨rfl,fun i h=>absurd h (by simp)⟩
 |o::os,l,h=>by
  simp only[compL]at h
  split at h
  ·rename_i c hc
   obtain⟨l',h1,rfl⟩:=Option.map_eq_some_iff.1 h
   obtain⟨h2,h3⟩:=compL_get os l' h1
   refine⟨by simp[h2],fun i hi hi'=> ?_⟩
   cases i with
   |zero=>exact hc
   |succ i=>simpa using h3 i (by simpa using hi) (by simpa using hi')
  ·cases h
theorem drawS_pos{ops:Array Oper}{l:List CI}(h:drawS ops l=true):∃ k,∃ hk:k<l.length,pos4 l 0=some k∧l[k].op.cls=4:=by
 unfold drawS at h
 split at h
 ·cases h
 ·rename_i k e
  obtain⟨i,h1,h2,h3,_⟩:=pos4_some _ _ e
  obtain rfl:k=i:=by omega
  exact⟨k,h1,e,h3⟩
theorem drawOK_cls{ops:Array Oper}{l:List CI}(h:drawOK ops l=true∨drawS ops l=true):∀ c∈l,c.op.cls≤1∨(c.op.cls=4∧c.g=none):=fun c hc=>by
 have key:c.d.isSome=true∧(c.op.cls.ble 1=true∨(c.op.cls.beq 4=true∧c.g.isNone=true)):=by
  rcases h with h|h
  ·unfold drawOK at h
   simp only[Bool.and_eq_true,List.all_eq_true,Bool.or_eq_true]at h
   exact h.1.2 c hc
  ·unfold drawS at h
   split at h
   ·cases h
   ·simp only[Bool.and_eq_true,List.all_eq_true,Bool.or_eq_true]at h
    exact h.1.2 c hc
 rcases key.2 with h|h
 ·exact .inl (Nat.le_of_ble_eq_true h)
 ·exact .inr ⟨Nat.eq_of_beq_eq_true h.1,by simpa using h.2⟩
def Chain(P:Program)[Glob P](cfg:Nat→Nat)(K:Regs→Prop)(l:List CI)(rg:Regs)(σ:Store):Prop:=
 ∃ xs:List AV,xs.length=l.length∧(∃ rgF,K rgF∧∀ i,lk rgF i=lk (puts l xs rg) i)∧∀ i (h:i<l.length) (h':i<xs.length),QV P cfg l[i] (puts (l.take i) (xs.take i) rg) σ xs[i]
theorem SW_chain{l:List CI}{Q:Exit→Regs→Store→Prop}(cfg:Nat→Nat)(h:(∀ c∈l,c.op.cls≤1∨(c.op.cls=4∧c.g=none))→Chain P cfg (fun rg'=>Q .normal rg' σ) l rg σ∧∀ c∈l,c.op.cls≤1):SW P N (.dreg l) Q rg σ:=by
 intro c hc M w0 a w hI hR hN hD
 obtain⟨id,ops,rfl,hl,hok,hfol⟩:=compC_inv hc
 obtain⟨hlen,hget⟩:=compL_get ops.toList l hl
 have hlen':l.length=ops.size:=by simpa using hlen
 obtain⟨⟨xs,hxl,⟨rgF,hK,hF⟩,hQV⟩,hcls⟩:=h (drawOK_cls hok)
 replace hok:drawOK ops l=true:=by
  rcases hok with hok|hok
  ·exact hok
  ·exfalso
   obtain⟨k,hk,_,h4⟩:=drawS_pos hok
   have:=hcls _ (List.getElem_mem hk)
   omega
 unfold drawOK at hok
 simp only[Bool.and_eq_true,decide_eq_true_eq]at hok
 obtain⟨⟨hnd,_⟩,hdep⟩:=hok
 rw[List.all_eq_true]at hdep
 have hst:∀ i (hi:i<l.length) (ho:i<ops.size),(∀ e∈ops[i].after,Region.binds .any e=true→e.on<i)∧∀ t∈l[i].reads,(∀ c∈l,c.d≠some t)∨∃ j,∃ hj:j<l.length,l[j].d=some t∧j<i∧∃ e∈ops[i].after,Region.binds .any e=true∧e.on=j:=by
  intro i hi ho
  have hm:((l[i],ops[i]),i)∈(l.zip ops.toList).zipIdx:=by
   rw[List.mem_zipIdx_iff_getElem?]
   simp[List.getElem?_zip_eq_some,hi,ho]
  have:=hdep _ hm
  simp only[Bool.and_eq_true]at this
  obtain⟨h1,h2⟩:=this
  have hb:∀ e∈ops[i].after,Region.binds .any e=true→e.on<i:=by
   intro e he hbe
   have:=Array.all_eq_true_iff_forall_mem.1 h1 e he
   simpa[hbe]using this
  refine⟨hb,fun t ht=> ?_⟩
  have h3:=List.all_eq_true.1 h2 t ht
  split at h3
  ·rename_i j hj
   right
   rw[Array.any_eq_true]at h3
   obtain⟨m,hm2,h4⟩:=h3
   simp only[Bool.and_eq_true,beq_iff_eq]at h4
   have hjl:j<l.length∧(l.map (·.d))[j]? =some (some t):=by
    obtain⟨i',h5,h6⟩:=posOf_some _ _ hj
    obtain rfl:j=i':=by omega
    exact⟨by have:=(List.getElem?_eq_some_iff.1 h6).1;simpa using this,h6⟩
   obtain⟨hj1,hj2⟩:=hjl
   refine⟨j,hj1,by simpa[hj1]using hj2,?_,ops[i].after[m],Array.getElem_mem hm2,h4.1,h4.2⟩
   rw[← h4.2]
   exact hb _ (Array.getElem_mem hm2) h4.1
  ·rename_i hj
   left
   intro c hc e
   exact posOf_none _ _ hj (by rw[← e];exact List.mem_map_of_mem hc)
 let RG:=puts l xs rg
 have hRGj:∀ j (h:j<l.length) t,l[j].d=some t→lk RG t=xs[j]'(by omega):=fun j h t ht=>lk_puts l xs rg hnd hxl j h (by omega) t ht
 have hRGn:∀ t,(∀ c∈l,c.d≠some t)→lk RG t=lk rg t:=fun t ht=>lk_puts_not l xs rg t ht
 have hQ:∀ i (hi:i<l.length),QV P cfg l[i] RG σ (xs[i]'(by omega)):=by
  intro i hi
  refine QV_local (fun t ht=> ?_) (hQV i hi (by omega))
  rcases(hst i hi (by omega)).2 t ht with hn|⟨j,hj,hjd,hji,_⟩
  ·rw[hRGn t hn]
   exact lk_puts_not _ _ _ _ (fun c hc=>hn c (List.mem_of_mem_take hc))
  ·rw[hRGj j hj t hjd]
   have e1:(l.take i)[j]'(by simp;omega)=l[j]:=by simp
   have e2:(xs.take i)[j]'(by simp;omega)=xs[j]'(by omega):=by simp
   rw[← e2]
   refine lk_puts (l.take i) (xs.take i) rg ?_ (by simp[hxl]) j (by simp;omega) (by simp;omega) t (by rw[e1];exact hjd)
   rw[List.map_take]
   exact hnd.sublist (List.take_sublist _ _)
 refine cwp_any hfol ?_
 have main:∀ (fuel:Nat) (listed:Array Bool) (a:Act) (w:World),listed.size=ops.size→((List.range ops.size).filter (fun i=> !listed.getD i true)).length≤fuel→
   (∃ M2,M.le M2∧Inv P M2 w0 σ w∧a.tmps.size=N∧a.defers=Glob.df P∧(∀ t,(∀ c∈l,c.d≠some t)→R M2 (lk rg t) (a.tmps.getD t undef))∧∀ j (h:j<l.length) t,listed.getD j true=true→l[j].d=some t→R M2 (xs[j]'(by omega)) (a.tmps.getD t undef))→
   wpAny P .any ops (conc P M w0 N Q) fuel listed a w:=by
  intro fuel
  induction fuel with
  |zero=>
   rintro listed a w hsz hcnt ⟨M2,g1,g2,g3,g4,g5,g6⟩
   have hall:∀ i,i<ops.size→listed.getD i true=true:=by
    intro i hi
    cases hli:listed.getD i true with
    |true=>rfl
    |false=>
     have:i∈(List.range ops.size).filter (fun i=> !listed.getD i true):=by simp only[List.mem_filter,List.mem_range,hi,hli,Bool.not_false,and_self]
     have:=List.length_pos_of_mem this
     omega
   refine⟨?_,M2,rgF,σ,g1,g2,fun t=> ?_,g3,g4,hK⟩
   ·unfold Region.ready
    rw[List.filter_eq_nil_iff]
    intro i hi
    simp[hall i (by simpa using hi)]
   ·rw[hF]
    by_cases ht:∃ j,∃ h:j<l.length,l[j].d=some t
    ·obtain⟨j,hj,hjd⟩:=ht
     show R M2 (lk RG t) _
     rw[hRGj j hj t hjd]
     exact g6 j hj t (hall j (by omega)) hjd
    ·show R M2 (lk RG t) _
     rw[hRGn t (fun c hc e=>by
      obtain⟨j,hj,rfl⟩:=List.mem_iff_getElem.1 hc
      exact ht ⟨j,hj,e⟩)]
     exact g5 t (fun c hc e=>by
      obtain⟨j,hj,rfl⟩:=List.mem_iff_getElem.1 hc
      exact ht ⟨j,hj,e⟩)
  |succ fuel ih=>
   rintro listed a w hsz hcnt ⟨M2,g1,g2,g3,g4,g5,g6⟩
   refine⟨fun hr=> ?_,fun i hi=> ?_⟩
   ·
    have hall:∀ i,i<ops.size→listed.getD i true=true:=by
     intro i
     induction i using Nat.strongRecOn with
     |_ i ihi=>
      intro hi
      cases hli:listed.getD i true with
      |true=>rfl
      |false=>
       have:i∈Region.ready .any ops listed:=by
        unfold Region.ready
        rw[List.mem_filter]
        refine⟨by simpa using hi,?_⟩
        simp only[hli,Bool.not_false,Bool.true_and,Array.getElem?_eq_getElem hi,Option.map_some,Option.getD_some]
        rw[Array.all_eq_true_iff_forall_mem]
        intro e he
        cases hbe:Region.binds .any e with
        |false=>rfl
        |true=>
         have hlt:=(hst i (by omega) hi).1 e he hbe
         have:=ihi e.on hlt (by omega)
         have h2:listed.getD e.on false=true:=by
          rw[Array.getD_eq_getD_getElem?]at this ⊢
          rw[Array.getElem?_eq_getElem (by omega)]at this ⊢
          exact this
         simp[h2]
       rw[hr]at this
       cases this
    refine⟨M2,rgF,σ,g1,g2,fun t=> ?_,g3,g4,hK⟩
    rw[hF]
    by_cases ht:∃ j,∃ h:j<l.length,l[j].d=some t
    ·obtain⟨j,hj,hjd⟩:=ht
     show R M2 (lk RG t) _
     rw[hRGj j hj t hjd]
     exact g6 j hj t (hall j (by omega)) hjd
    ·show R M2 (lk RG t) _
     rw[hRGn t (fun c hc e=>by
      obtain⟨j,hj,rfl⟩:=List.mem_iff_getElem.1 hc
      exact ht ⟨j,hj,e⟩)]
     exact g5 t (fun c hc e=>by
      obtain⟨j,hj,rfl⟩:=List.mem_iff_getElem.1 hc
      exact ht ⟨j,hj,e⟩)
   ·unfold Region.ready at hi
    rw[List.mem_filter]at hi
    obtain⟨hi1,hi2⟩:=hi
    have hio:i<ops.size:=by simpa using hi1
    simp only[Bool.and_eq_true,Bool.not_eq_true',Array.getElem?_eq_getElem hio,Option.map_some,Option.getD_some]at hi2
    obtain⟨hnl,hdeps⟩:=hi2
    have hil:i<l.length:=by omega
    have hci:compI P N ops ops[i]=some l[i]:=by have:=hget i (by simpa using hio) hil;simpa using this
    obtain⟨hdst,hlt⟩:=compI_lt hci
    let rg':=Sx.filt l[i].reads RG
    have hR':RegsOK M2 rg' a:=by
     intro t
     by_cases ht:t∈l[i].reads
     ·rw[lk_filt_mem ht]
      rcases(hst i hil hio).2 t ht with hn|⟨j,hj,hjd,hji,e,he,hbe,hej⟩
      ·rw[hRGn t hn];exact g5 t hn
      ·rw[hRGj j hj t hjd]
       refine g6 j hj t ?_ hjd
       have:=Array.all_eq_true_iff_forall_mem.1 hdeps e he
       simp only[hbe,Bool.not_true,Bool.false_or,hej]at this
       rw[Array.getD_eq_getD_getElem?]at this ⊢
       rw[Array.getElem?_eq_getElem (by omega)]at this ⊢
       exact this
     ·rw[lk_filt_not ht];exact .any _
    have hq:QV P cfg l[i] rg' σ (xs[i]'(by omega)):=QV_local (fun t ht=>(lk_filt_mem ht).symm) (hQ i hil)
    unfold wpOp
    simp only[Array.getElem?_eq_getElem hio]
    refine guard_sound (K:=fun y σ'=>y=xs[i]'(by omega)∧σ'=σ) (E:=fun _ _=>False) hci hq g2 hR' ⟨?_,fun _ _ _ _ _ _ h=>h.elim⟩
    rintro M3 x σ' v w' hM hI' hx ⟨rfl,rfl⟩
    refine ih _ _ _ (by simp[hsz]) ?_ ⟨M3,g1.trans hM,hI',by rw[Act.size_put];exact g3,by rw[Act.defers_put];exact g4,fun t ht=> ?_,fun j hj t hlj hjd=> ?_⟩
    ·have:=filter_lt (fun i=> !listed.getD i true) (fun k=> !(listed.setIfInBounds i true).getD k true) (List.range ops.size) (fun k _ hk=>by
      simp only[Bool.not_eq_true']at hk ⊢
      rw[Array.getD_eq_getD_getElem?,Array.getElem?_setIfInBounds]at hk
      split at hk
      ·split at hk<;>simp at hk
      ·rw[Array.getD_eq_getD_getElem?];exact hk) ⟨i,hi1,by simpa using hnl,by
       simp only[Bool.not_eq_false']
       rw[Array.getD_eq_getD_getElem?,Array.getElem?_setIfInBounds]
       simp[hsz,hio]⟩
     omega
    ·have hne:ops[i].dst≠some t:=by rw[← hdst];exact ht _ (List.getElem_mem hil)
     have:=(g5 t ht).mono hM
     have e:(a.put ops[i].dst v).tmps.getD t undef=a.tmps.getD t undef:=by
      cases hd:ops[i].dst with
      |none=>rfl
      |some u=>
       have hut:u≠t:=fun e=>hne (by rw[hd,e])
       simp[Act.put,Array.getElem?_setIfInBounds_ne hut]
     rw[e];exact this
    ·by_cases hij:j=i
     ·subst hij
      have hd:ops[j].dst=some t:=by rw[← hdst];exact hjd
      have htN:t<a.tmps.size:=by rw[g3];exact hlt t hjd
      have e:(a.put ops[j].dst v).tmps.getD t undef=v:=by simp[hd,Act.put,htN]
      rw[e];exact hx
     ·have hlj':listed.getD j true=true:=by
       rw[Array.getD_eq_getD_getElem?,Array.getElem?_setIfInBounds,if_neg (fun e=>hij e.symm)]at hlj
       rw[Array.getD_eq_getD_getElem?];exact hlj
      have:=(g6 j hj t hlj' hjd).mono hM
      have e:(a.put ops[i].dst v).tmps.getD t undef=a.tmps.getD t undef:=by
       cases hd:ops[i].dst with
       |none=>rfl
       |some u=>
        have hut:u≠t:=fun e=>by
         subst e
         have h1:l[i].d=some u:=hdst.trans hd
         have hpw:=List.pairwise_iff_getElem.1 hnd
         rcases Nat.lt_trichotomy i j with h|h|h
         ·exact hpw i j (by simpa using hil) (by simpa using hj) h (by simp[h1,hjd])
         ·exact hij h.symm
         ·exact hpw j i (by simpa using hj) (by simpa using hil) h (by simp[h1,hjd])
        simp[Act.put,Array.getElem?_setIfInBounds_ne hut]
      rw[e];exact this
 refine main ops.size _ a _ (by simp) ?_ ⟨M,Mem.le.refl _,hI.drew',hN,hD,fun t _=>hR t,fun j hj t hlj _=> ?_⟩
 ·exact Nat.le_trans (List.length_filter_le _ _) (by simp)
 ·exfalso
  have hjo:j<ops.size:=by omega
  simp[hjo]at hlj
where
 lk_filt_mem {l:List Nat} {rg:Regs} {t:Nat} (h:t∈l):lk (Sx.filt l rg) t=lk rg t:=by
  induction l with
  |nil=>cases h
  |cons u l ih=>
   simp only[Sx.filt,lk]
   cases hb:Nat.beq u t with
   |true=>rw[Nat.eq_of_beq_eq_true hb];rfl
   |false=>
    rcases List.mem_cons.1 h with rfl|h
    ·simp[Nat.beq_refl]at hb
    ·exact ih h
 lk_filt_not {l:List Nat} {rg:Regs} {t:Nat} (h:t∉l):lk (Sx.filt l rg) t= .any:=by
  induction l with
  |nil=>rfl
  |cons u l ih=>
   simp only[Sx.filt,lk]
   cases hb:Nat.beq u t with
   |true=>exact absurd (List.mem_cons.2 (.inl (Nat.eq_of_beq_eq_true hb).symm)) h
   |false=>exact ih (fun hm=>h (List.mem_cons_of_mem _ hm))
theorem SW_dreg{l:List CI}{Q:Exit→Regs→Store→Prop}(cfg:Nat→Nat)(h:vcQ P cfg l (fun rg'=>Q .normal rg' σ) rg σ):SW P N (.dreg l) Q rg σ:=
 SW_chain cfg fun hc=>⟨vcQ_chain l rg rg (fun _=>rfl) h,vcQ_cls l rg hc h⟩
end
end Go.Sx
