/-
  The layer Sx, thirteenth part: a region whose order is open, with new variables and stores among its operations.
-/
import Derived.Test.YtekngilbecjkhaaGreatDoorSxStep
set_option linter.unusedVariables false
set_option linter.unusedSimpArgs false
set_option linter.unusedSectionVars false
namespace Go.Sx
open Go.RowKit
def StEq(σ σ':Store):Prop:=(∀ t,lkt σ t=lkt σ' t)∧σ.Perm σ'
theorem StEq.refl(σ:Store):StEq σ σ:=⟨fun _=>rfl,.refl _⟩
theorem StEq.symm{σ σ':Store}(h:StEq σ σ'):StEq σ' σ:=⟨fun t=>(h.1 t).symm,h.2.symm⟩
theorem StEq.trans{a b c:Store}(h:StEq a b)(k:StEq b c):StEq a c:=⟨fun t=>(h.1 t).trans (k.1 t),h.2.trans k.2⟩
theorem lkt_cons(t b:Nat)(x:Blk)(σ:Store)(s:Nat):lkt ((t,b,x)::σ) s=if t=s then some (b,x)else lkt σ s:=by
 simp only[lkt]
 cases h:Nat.beq t s with
 |true=>rw[if_pos (Nat.eq_of_beq_eq_true h)];rfl
 |false=>rw[if_neg (fun e=>by subst e;simp[Nat.beq_refl]at h)];rfl
theorem StEq.cons{σ σ':Store}(e:Nat×Nat×Blk)(h:StEq σ σ'):StEq (e::σ) (e::σ'):=by
 obtain⟨t,b,x⟩:=e
 exact⟨fun s=>by rw[lkt_cons,lkt_cons,h.1 s],h.2.cons _⟩
theorem StEq.swap{t t' b b':Nat}{x x':Blk}(h:t≠t')(σ:Store):StEq ((t,b,x)::(t',b',x')::σ) ((t',b',x')::(t,b,x)::σ):=
 ⟨fun s=>by
  simp only[lkt_cons]
  by_cases h1:t=s
  ·by_cases h2:t'=s
   ·exact absurd (h1.trans h2.symm) h
   ·simp[h1,h2]
  ·by_cases h2:t'=s<;>simp[h1,h2],List.Perm.swap _ _ _⟩
theorem lkt_upt{t b:Nat}{x:Blk}:∀ {σ:Store},lkt σ t=some (b,x)→∀ b' x' s,lkt (upt σ t b' x') s=if t=s then some (b',x')else lkt σ s
 |[],h,_,_,_=>by cases h
 |(i,c,y)::σ,h,b',x',s=>by
  rw[lkt_cons]at h
  simp only[upt]
  cases hb:Nat.beq i t with
  |true=>
   obtain rfl:=Nat.eq_of_beq_eq_true hb
   simp only[cond_true,lkt_cons]
   split<;>rfl
  |false=>
   have hne:i≠t:=fun e=>by subst e;simp[Nat.beq_refl]at hb
   rw[if_neg hne]at h
   simp only[cond_false,lkt_cons,lkt_upt h b' x' s]
   by_cases h1:i=s
   ·have:t≠s:=fun e=>hne (h1.trans e.symm)
    simp[h1,this]
   ·simp[h1]
theorem StEq.upt{σ σ':Store}(h:StEq σ σ'){t b:Nat}{x:Blk}(hb:lkt σ t=some (b,x))(b':Nat)(x':Blk):StEq (Sx.upt σ t b' x') (Sx.upt σ' t b' x'):=by
 have hb':lkt σ' t=some (b,x):=(h.1 t).symm.trans hb
 refine⟨fun s=>by rw[lkt_upt hb,lkt_upt hb',h.1 s],?_⟩
 obtain⟨p,q,e,k⟩:=upt_split hb
 obtain⟨p',q',e',k'⟩:=upt_split hb'
 rw[k,k']
 have hp:=h.2
 rw[e,e']at hp
 have h1:((t,b,x)::(p++q)).Perm ((t,b,x)::(p'++q')):=(List.perm_middle.symm.trans hp).trans List.perm_middle
 exact(List.perm_middle.trans ((h1.cons_inv).cons _)).trans List.perm_middle.symm
theorem Inv.perm{P:Program}[Glob P]{M:Mem}{w0 w:World}{σ σ':Store}(hI:Inv P M w0 σ w)(h:σ.Perm σ'):Inv P M w0 σ' w:=
 ⟨hI.os,hI.tape,hI.output,hI.size,hI.old,hI.imm,fun e he=>hI.st e (h.mem_iff.2 he),((h.map _).nodup_iff).1 hI.nd,hI.gl,hI.gw⟩
theorem vcOQ_free{P:Program}[Glob P]{cfg:Nat→Nat}{d:Option Nat}{rg:Regs}{σ:Store}{K:AV→Prop}{op:IOp}(hl:op.cls=0)(h:vcOQ P cfg d rg σ K op):
  ∃ x,K x∧∀ (σ':Store) (K':AV→Prop),K' x→vcOQ P cfg d rg σ' K' op:=by
 cases op with
 |box t x=>exact h.elim
 |alloc t z=>exact h.elim
 |store n x y=>exact h.elim
 |append t n k z x y=>exact h.elim
 |exts op ty ti args=>exact h.elim
 |extq op ty ti args=>obtain⟨r,hp,hk⟩:=h;exact⟨r,hk,fun σ' K' h=>⟨r,hp,h⟩⟩
 |call f args=>obtain⟨r,hp,hk⟩:=h;exact⟨r,hk,fun σ' K' h=>⟨r,hp,h⟩⟩
 |callv f args=>
  simp only[vcOQ]at h
  simp only[vcOQ,vcO]
  split at h
  ·rename_i g b c he
   obtain⟨hcl,r,hp,hk⟩:=h
   (try rw[he])
   exact⟨r,hk,fun σ' K' h=>⟨hcl,r,hp,h⟩⟩
  ·rename_i g b c he
   obtain⟨hcl,r,hp,hk⟩:=h
   (try rw[he])
   exact⟨r,hk,fun σ' K' h=>⟨hcl,r,hp,h⟩⟩
  ·exact h.elim
 |mksl t esz parts=>
  simp only[vcOQ]at h
  simp only[vcOQ,vcO]
  split at h
  ·rename_i rows he
   (try rw[he])
   obtain⟨hn,h⟩:=h
   split at h
   ·rename_i e;exact⟨_,h,fun σ' K' hk=>⟨hn,by first|exact hk|(rw[e];exact hk)|(simp[e];exact hk)⟩⟩
   ·rename_i e;exact⟨_,h,fun σ' K' hk=>⟨hn,by first|exact hk|(rw[e];exact hk)|(simp[e];exact hk)⟩⟩
   ·exact h.elim
  ·exact h.elim
 |len s x=>
  cases s<;>simp only[vcOQ]at h<;>simp only[vcOQ]
  ·split at h
   ·rename_i b n c he;(try rw[he]);exact⟨_,h,fun σ' K' hk=>hk⟩
   ·rename_i tg b o n c he;(try rw[he]);exact⟨_,h,fun σ' K' hk=>hk⟩
   ·rename_i nn ez rows he;(try rw[he]);exact⟨_,h,fun σ' K' hk=>hk⟩
   ·rename_i ez tg b u c rows he;(try rw[he]);exact⟨_,h,fun σ' K' hk=>hk⟩
   ·exact h.elim
  ·split at h
   ·rename_i s he;(try rw[he]);exact⟨_,h,fun σ' K' hk=>hk⟩
   ·exact h.elim
 |mv x=>exact⟨_,h,fun σ' K' hk=>hk⟩
 |mkifc t x=>exact⟨_,h,fun σ' K' hk=>hk⟩
 |pick c x y=>
  simp only[vcOQ,vcO]at h
  simp only[vcOQ,vcO]
  split at h
  ·rename_i t he;(try rw[he]);exact⟨_,h,fun σ' K' hk=>hk⟩
  ·exact h.elim
 |build z parts=>
  simp only[vcOQ,vcO]at h
  simp only[vcOQ,vcO]
  split at h
  ·rename_i t he;(try rw[he]);exact⟨_,h,fun σ' K' hk=>hk⟩
  ·exact h.elim
 |load g n x=>cases hl
 |nilck x=>
  simp only[vcOQ,vcO]at h
  simp only[vcOQ,vcO]
  split at h<;>first|exact h.elim|(rename_i he;(try rw[he]);exact⟨_,h,fun σ' K' hk=>hk⟩)
 |bin op x y=>
  simp only[vcOQ,vcO]at h
  simp only[vcOQ,vcO]
  split at h
  ·rename_i u v hu hv
   (try rw[hu,hv])
   obtain⟨z,hz,hz'⟩:=vcBin_det h
   exact⟨.v z,hz,fun σ' K' hk=>hz' _ hk⟩
  ·exact h.elim
 |eqb n k x y=>
  simp only[vcOQ,vcO]at h
  simp only[vcOQ,vcO]
  split at h
  ·rename_i t he;(try rw[he]);exact⟨_,h,fun σ' K' hk=>hk⟩
  ·exact h.elim
 |eqs n k x y=>
  simp only[vcOQ,vcO]at h
  simp only[vcOQ,vcO]
  split at h
  ·rename_i xs ys h1 h2
   (try rw[h1,h2])
   split at h
   ·rename_i t he;(try simp only[he]);exact⟨_,h,fun σ' K' hk=>hk⟩
   ·exact h.elim
  ·exact h.elim
 |un op x=>
  simp only[vcOQ,vcO]at h
  simp only[vcOQ,vcO]
  split at h
  ·rename_i u hu
   (try rw[hu])
   split at h
   ·rename_i t he;(try simp only[he]);exact⟨_,h,fun σ' K' hk=>hk⟩
   ·exact h.elim
  ·exact h.elim
 |cvint k x=>
  simp only[vcOQ,vcO]at h
  simp only[vcOQ,vcO]
  split at h
  ·rename_i k' n he;(try rw[he]);exact⟨_,h,fun σ' K' hk=>hk⟩
  ·exact h.elim
 |cvstr x=>
  simp only[vcOQ,vcO]at h
  simp only[vcOQ,vcO]
  split at h
  ·rename_i s he;(try rw[he]);exact⟨_,h,fun σ' K' hk=>hk⟩
  ·exact h.elim
 |mkfn fn first captured=>
  simp only[vcOQ,vcO]at h
  simp only[vcOQ,vcO]
  split at h
  ·rename_i u v h1 h2;(try rw[h1,h2]);exact⟨_,h,fun σ' K' hk=>hk⟩
  ·split at h
   ·exact⟨_,h,fun σ' K' hk=>hk⟩
   ·exact h.elim
 |slice esz x lo hi=>
  simp only[vcOQ,vcO]at h
  simp only[vcOQ,vcO]
  split at h
  ·rename_i rlo rhi h1 h2
   (try rw[h1,h2])
   split at h
   ·rename_i nn e rows he;(try simp only[he]);exact⟨_,h.2.2.2.2,fun σ' K' hk=>⟨h.1,h.2.1,h.2.2.1,h.2.2.2.1,hk⟩⟩
   ·rename_i e tg b u c rows he;(try simp only[he]);exact⟨_,h.2.2.2.2,fun σ' K' hk=>⟨h.1,h.2.1,h.2.2.1,h.2.2.2.1,hk⟩⟩
   ·rename_i he;(try simp only[he]);exact⟨_,h.2.2,fun σ' K' hk=>⟨h.1,h.2.1,hk⟩⟩
   ·exact h.elim
  ·exact h.elim
 |faddr off x=>
  simp only[vcOQ,vcO]at h
  simp only[vcOQ,vcO]
  split at h<;>first|exact h.elim|(rename_i he;(try rw[he]);exact⟨_,h,fun σ' K' hk=>hk⟩)
 |field g o n x=>
  simp only[vcOQ,vcO]at h
  simp only[vcOQ,vcO]
  split at h
  ·rename_i l hl
   (try rw[hl])
   obtain⟨hlt,h⟩:=h
   cases g with
   |true=>simp only[if_true]at h ⊢;exact⟨_,h,fun σ' K' hk=>⟨hlt,hk⟩⟩
   |false=>
    simp only[Bool.false_eq_true,if_false]at h ⊢
    split at h
    ·rename_i y hy;(try rw[hy]);exact⟨_,h,fun σ' K' hk=>⟨hlt,hk⟩⟩
    ·exact h.elim
  ·exact h.elim
 |iaddr esz x i=>
  simp only[vcOQ,vcO]at h
  simp only[vcOQ,vcO]
  split at h
  ·rename_i k j hi
   (try rw[hi])
   split at h
   ·rename_i nn e rows he;(try simp only[he]);exact⟨_,h.2.2.2,fun σ' K' hk=>⟨h.1,h.2.1,h.2.2.1,hk⟩⟩
   ·rename_i e tg b u c rows he;(try simp only[he]);exact⟨_,h.2.2.2,fun σ' K' hk=>⟨h.1,h.2.1,h.2.2.1,hk⟩⟩
   ·rename_i tg b o n c he;(try simp only[he]);exact⟨_,h.2.2,fun σ' K' hk=>⟨h.1,h.2.1,hk⟩⟩
   ·exact h.elim
  ·exact h.elim
 |iaddrA n esz x i=>
  simp only[vcOQ,vcO]at h
  simp only[vcOQ,vcO]
  split at h
  ·rename_i k j hi
   (try rw[hi])
   split at h
   ·rename_i tg b o he;(try simp only[he]);exact⟨_,h.2.2,fun σ' K' hk=>⟨h.1,h.2.1,hk⟩⟩
   ·rename_i l he;(try simp only[he]);exact⟨_,h.2.2,fun σ' K' hk=>⟨h.1,h.2.1,hk⟩⟩
   ·exact h.elim
  ·exact h.elim
 |idxs x i=>
  simp only[vcOQ,vcO]at h
  simp only[vcOQ,vcO]
  split at h
  ·rename_i k j s h1 h2
   (try rw[h1,h2])
   obtain⟨hlt,h⟩:=h
   exact⟨_,h,fun σ' K' hk=>⟨hlt,hk⟩⟩
  ·exact h.elim
 |extract x i=>
  simp only[vcOQ,vcO]at h
  simp only[vcOQ,vcO]
  split at h
  ·rename_i xs he
   (try rw[he])
   split at h
   ·rename_i y hy;(try simp only[hy]);exact⟨_,h,fun σ' K' hk=>hk⟩
   ·exact h.elim
  ·rename_i xs he
   (try rw[he])
   split at h
   ·rename_i y hy;(try simp only[hy]);exact⟨_,h,fun σ' K' hk=>hk⟩
   ·exact h.elim
  ·exact h.elim
 |max2 x y=>
  simp only[vcOQ,vcO]at h
  simp only[vcOQ,vcO]
  split at h
  ·rename_i u v h1 h2
   (try rw[h1,h2])
   split at h
   ·rename_i t he;(try simp only[he]);exact⟨_,h,fun σ' K' hk=>hk⟩
   ·exact h.elim
  ·exact h.elim
 |min2 x y=>
  simp only[vcOQ,vcO]at h
  simp only[vcOQ,vcO]
  split at h
  ·rename_i u v h1 h2
   (try rw[h1,h2])
   split at h
   ·rename_i t he;(try simp only[he]);exact⟨_,h,fun σ' K' hk=>hk⟩
   ·exact h.elim
  ·exact h.elim
def labOf:AV→Option Nat
 | .lp t _ _=>some t
 | .ms t _ _ _ _=>some t
 |_=>none
def labNe(rg:Regs)(t s:Nat):Bool:=match labOf (lk rg s)with
 |some t'=> !Nat.beq t' t
 |none=>false
def ldOK(als cf:List Nat)(rg:Regs):IOp→Bool
 | .load _ _ x=>match ev rg x with
  | .lp t _ _=> !als.elem t && cf.all (labNe rg t)
  |_=>true
 |_=>false
def stOK(als cf:List Nat)(rg:Regs):IOp→Bool
 | .store _ x _=>match ev rg x with
  | .lp t _ _=>match cf with
   |[]=>true
   |[s]=>match labOf (lk rg s)with
    |some t'=>Nat.beq t' t && (!als.elem s || Nat.beq s t)
    |none=>false
   |_=>false
  |_=>true
 |_=>false
def vcOD(P:Program)[Glob P](cfg:Nat→Nat)(als cf:List Nat)(d:Option Nat)(rg:Regs)(σ:Store)(K:AV→Store→Prop)(op:IOp):Prop:=
 match op.cls with
 |0=>vcOQ P cfg d rg σ (fun x=>K x σ) op
 |1=>ldOK als cf rg op=true∧vcO P cfg d rg σ K (fun _ _=>False) op
 |2=>vcO P cfg d rg σ K (fun _ _=>False) op
 |3=>stOK als cf rg op=true∧vcO P cfg d rg σ K (fun _ _=>False) op
 |4=>(isApp op && als.elem (d.getD 0))=true∧vcO P cfg d rg σ K (fun _ _=>False) op
 |_=>False
def vcGD(P:Program)[Glob P](cfg:Nat→Nat)(als:List Nat)(c:CD)(K:AV→Store→Prop)(rg:Regs)(σ:Store):Prop:=
 match c.c.g with
 |none=>vcOD P cfg als c.cf c.c.d rg σ K c.c.op
 |some (t,want)=>match lk rg t with
  | .v (.bool b)=>(b=want→vcOD P cfg als c.cf c.c.d rg σ K c.c.op)∧(b= !want→K (.v undef) σ)
  | .v (.tuple _)=>K (.v undef) σ
  |_=>False
def vcM(P:Program)[Glob P](cfg:Nat→Nat)(als:List Nat):List CD→(Regs→Store→Prop)→Regs→Store→Prop
 |[],K,rg,σ=>K rg σ
 |c::l,K,rg,σ=>vcGD P cfg als c (fun x σ'=>vcM P cfg als l K (putR c.c.d x rg) σ') rg σ
section
variable {P:Program}[Glob P]{cfg:Nat→Nat}{als:List Nat}{c:CD}{rg rg':Regs}{σ σ':Store}{K K':AV→Store→Prop}
theorem vcOQ_local{d:Option Nat}{K:AV→Prop}{op:IOp}(h:∀ t∈tmpsOf op.opers,lk rg t=lk rg' t):vcOQ P cfg d rg σ K op=vcOQ P cfg d rg' σ K op:=by
 cases op with
 |call f args=>simp only[vcOQ];rw[evs_local args h]
 |callv f args=>
  have hf:ev rg f=ev rg' f:=ev_local fun t ht=>h t (by simp only[IOp.opers];rw[tmpsOf_cons];exact List.mem_append_left _ ht)
  have ha:evs rg args=evs rg' args:=evs_local args fun t ht=>h t (by simp only[IOp.opers];rw[tmpsOf_cons];exact List.mem_append_right _ ht)
  simp only[vcOQ];rw[hf,ha]
 |mksl t esz parts=>simp only[vcOQ];rw[evs_local parts h]
 |len s x=>cases s<;>(simp only[vcOQ];rw[ev_local h])
 |box t x=>rfl
 |alloc t z=>rfl
 |store n x y=>rfl
 |append t n k z x y=>rfl
 |exts op ty ti args=>rfl
 |extq op ty ti args=>simp only[vcOQ];rw[evs_local args h]
 |_=>simp only[vcOQ];exact vcO_local h
theorem ldOK_local{cf:List Nat}{op:IOp}(h:∀ t∈tmpsOf op.opers,lk rg t=lk rg' t)(h2:∀ t∈cf,lk rg t=lk rg' t):ldOK als cf rg op=ldOK als cf rg' op:=by
 cases op<;>try rfl
 rename_i a n x
 simp only[ldOK]
 rw[ev_local h]
 have:∀ t,cf.all (labNe rg t)=cf.all (labNe rg' t):=fun t=>by
  rw[Bool.eq_iff_iff,List.all_eq_true,List.all_eq_true]
  exact⟨fun k s hs=>by have:=k s hs;unfold labNe at *;rwa [← h2 s hs],fun k s hs=>by have:=k s hs;unfold labNe at *;rwa [h2 s hs]⟩
 split<;>simp only[this]
theorem stOK_local{cf:List Nat}{op:IOp}(h:∀ t∈tmpsOf op.opers,lk rg t=lk rg' t)(h2:∀ t∈cf,lk rg t=lk rg' t):stOK als cf rg op=stOK als cf rg' op:=by
 cases op<;>try rfl
 rename_i n x y
 have hx:ev rg x=ev rg' x:=ev_local fun t ht=>h t (by simp only[IOp.opers];rw[tmpsOf_cons];exact List.mem_append_left _ ht)
 simp only[stOK]
 rw[hx]
 split
 ·split
  ·rfl
  ·rename_i s;rw[h2 s (by simp)]
  ·rfl
 ·rfl
def rdD(c:CD):List Nat:=c.c.reads++c.cf
theorem vcOD_local{cf:List Nat}{d:Option Nat}{op:IOp}(h:∀ t∈tmpsOf op.opers,lk rg t=lk rg' t)(h2:∀ t∈cf,lk rg t=lk rg' t):vcOD P cfg als cf d rg σ K op=vcOD P cfg als cf d rg' σ K op:=by
 unfold vcOD
 split
 ·exact vcOQ_local h
 ·rw[ldOK_local h h2,vcO_local h]
 ·exact vcO_local h
 ·rw[stOK_local h h2,vcO_local h]
 ·rw[vcO_local h]
 ·rfl
theorem vcGD_local(h:∀ t∈rdD c,lk rg t=lk rg' t)(hv:vcGD P cfg als c K rg σ):vcGD P cfg als c K rg' σ:=by
 have e:vcOD P cfg als c.cf c.c.d rg σ K c.c.op=vcOD P cfg als c.cf c.c.d rg' σ K c.c.op:=
  vcOD_local (fun t ht=>h t (by unfold rdD CI.reads;exact List.mem_append_left _ (List.mem_append_left _ ht))) (fun t ht=>h t (by unfold rdD;exact List.mem_append_right _ ht))
 unfold vcGD at *
 cases hg:c.c.g with
 |none=>rw[hg]at hv;simp only at hv ⊢;rw[← e];exact hv
 |some p=>
  obtain⟨u,want⟩:=p
  have hu:lk rg u=lk rg' u:=h u (by unfold rdD CI.reads;rw[hg];simp)
  rw[hg]at hv
  simp only at hv ⊢
  rw[← hu]
  split<;>rename_i e2<;>simp only[e2]at hv
  ·rw[← e];exact hv
  ·exact hv
def Keep(als:List Nat)(c:CD)(rg:Regs)(σ σ':Store):Prop:=∀ t,als.elem t=false→(∀ s∈c.cf,labOf (lk rg s)≠some t)→∀ b l,lkt σ t=some (b,.cells l)→lkt σ' t=some (b,.cells l)
theorem load_det{cf:List Nat}{d:Option Nat}{E:List PanicEntry→Store→Prop}{op:IOp}(h1:op.cls=1)(hk:ldOK als cf rg op=true)(h:vcO P cfg d rg σ K E op):
  ∃ x,K x σ∧∀ (σ':Store),(∀ t,als.elem t=false→(∀ s∈cf,labOf (lk rg s)≠some t)→∀ b l,lkt σ t=some (b,.cells l)→lkt σ' t=some (b,.cells l))→∀ (K':AV→Store→Prop) (E':List PanicEntry→Store→Prop),K' x σ'→vcO P cfg d rg σ' K' E' op:=by
 cases op<;>simp only[IOp.cls,reduceCtorEq,Nat.reduceEqDiff]at h1
 rename_i g n x
 simp only[vcO]at h ⊢
 simp only[ldOK]at hk
 split at h
 ·rename_i t b o he
  rw[he]at hk
  simp only[Bool.and_eq_true,Bool.not_eq_true']at hk
  have hkeep:∀ σ':Store,(∀ t,als.elem t=false→(∀ s∈cf,labOf (lk rg s)≠some t)→∀ b l,lkt σ t=some (b,.cells l)→lkt σ' t=some (b,.cells l))→∀ b l,lkt σ t=some (b,.cells l)→lkt σ' t=some (b,.cells l):=fun σ' hh=>hh t hk.1 fun s hs e=>by
   have:=List.all_eq_true.1 hk.2 s hs
   unfold labNe at this
   rw[e]at this
   simp[Nat.beq_refl]at this
  split at h
  ·rename_i b' l hb
   obtain⟨rfl,h⟩:=h
   cases g with
   |true=>
    simp only[if_true]at h ⊢
    exact⟨_,h.2,fun σ' hs K' E' hk'=>by rw[hkeep σ' hs _ _ hb];exact⟨by trivial,h.1,hk'⟩⟩
   |false=>
    simp only[Bool.false_eq_true,if_false]at h ⊢
    split at h
    ·rename_i y hy
     exact⟨_,h,fun σ' hs K' E' hk'=>by rw[hkeep σ' hs _ _ hb];simp only[hy];exact⟨by trivial,hk'⟩⟩
    ·exact h.elim
  ·exact h.elim
 ·rename_i l he
  cases g with
  |true=>simp only[if_true]at h ⊢;exact⟨_,h.2,fun σ' _ K' E' hk'=>⟨h.1,hk'⟩⟩
  |false=>
   simp only[Bool.false_eq_true,if_false]at h ⊢
   split at h
   ·rename_i y hy
    exact⟨_,h,fun σ' _ K' E' hk'=>by(try simp only[hy]);exact hk'⟩
   ·exact h.elim
 ·rename_i gv he
  split at h
  ·rename_i l hl
   (try simp only[hl])
   cases g with
   |true=>simp only[if_true]at h ⊢;exact⟨_,h.2,fun σ' _ K' E' hk'=>⟨h.1,hk'⟩⟩
   |false=>
    simp only[Bool.false_eq_true,if_false]at h ⊢
    split at h
    ·rename_i y hy
     exact⟨_,h,fun σ' _ K' E' hk'=>by(try simp only[hy]);exact hk'⟩
    ·exact h.elim
  ·exact h.elim
 ·exact h.elim
theorem det(hc:c.c.op.cls≤1)(h:vcGD P cfg als c K rg σ):∃ x,K x σ∧∀ σ',(c.c.op.cls=1→Keep als c rg σ σ')→∀ K':AV→Store→Prop,K' x σ'→vcGD P cfg als c K' rg σ':=by
 have hop:vcOD P cfg als c.cf c.c.d rg σ K c.c.op→∃ x,K x σ∧∀ σ',(c.c.op.cls=1→Keep als c rg σ σ')→∀ K':AV→Store→Prop,K' x σ'→vcOD P cfg als c.cf c.c.d rg σ' K' c.c.op:=by
  intro h
  unfold vcOD at h
  split at h
  ·rename_i h0
   obtain⟨x,hx,hv⟩:=vcOQ_free h0 h
   exact⟨x,hx,fun σ' _ K' hk=>by unfold vcOD;rw[h0];exact hv σ' _ hk⟩
  ·rename_i h1
   obtain⟨x,hx,hv⟩:=load_det h1 h.1 h.2
   exact⟨x,hx,fun σ' hs K' hk=>by unfold vcOD;rw[h1];exact⟨h.1,hv σ' (hs h1) _ _ hk⟩⟩
  ·rename_i h2;rw[h2]at hc;omega
  ·rename_i h2;rw[h2]at hc;omega
  ·rename_i h2;rw[h2]at hc;omega
  ·exact h.elim
 unfold vcGD at h ⊢
 cases hg:c.c.g with
 |none=>rw[hg]at h;exact hop h
 |some p=>
  obtain⟨u,want⟩:=p
  rw[hg]at h
  simp only at h ⊢
  split at h
  ·rename_i b he
   by_cases hb:b=want
   ·obtain⟨x,hx,hv⟩:=hop (h.1 hb)
    exact⟨x,hx,fun σ' hs K' hk=>⟨fun _=>hv σ' hs K' hk,fun h'=>by subst hb;cases b<;>simp at h'⟩⟩
   ·have hb':b= !want:=by cases b<;>cases want<;>simp_all
    exact⟨_,h.2 hb',fun σ' hs K' hk=>⟨fun h'=>absurd h' hb,fun _=>hk⟩⟩
  ·exact⟨_,h,fun σ' hs K' hk=>hk⟩
  ·exact h.elim
def alC(rg:Regs):IOp→Option (List AV)
 | .alloc _ z=>some (z.cells.toList.map .v)
 | .box _ x=>(ev rg x).cells?
 |_=>none
theorem alC_local{op:IOp}(h:∀ t∈tmpsOf op.opers,lk rg t=lk rg' t):alC rg op=alC rg' op:=by
 cases op<;>try rfl
 simp only[alC]
 rw[ev_local h]
theorem vcA_iff(h2:c.c.op.cls=2)(hg:c.c.g=none):vcGD P cfg als c K rg σ↔∃ l,alC rg c.c.op=some l∧∀ b,K (.lp (c.c.d.getD 0) b 0) ((c.c.d.getD 0,b,.cells l)::σ):=by
 unfold vcGD vcOD
 rw[hg]
 simp only[h2]
 cases ho:c.c.op<;>rw[ho]at h2<;>simp only[IOp.cls,reduceCtorEq,Nat.reduceEqDiff]at h2
 ·rename_i t x
  simp only[vcO,alC]
  cases(ev rg x).cells? with
  |none=>simp
  |some l=>simp
 ·simp only[vcO,alC,Option.some.injEq,exists_eq_left']
theorem vcS_form(h3:c.c.op.cls=3)(hg:c.c.g=none)(h:vcGD P cfg als c K rg σ):
  ∃ t b l x,lkt σ t=some (b,.cells l)∧(∀ s,c.cf=[s]→labOf (lk rg s)=some t∧(als.elem s=true→s=t))∧K (.v undef) (upt σ t b x)∧
   ∀ (σ':Store) (K':AV→Store→Prop),lkt σ' t=lkt σ t→K' (.v undef) (upt σ' t b x)→vcGD P cfg als c K' rg σ':=by
 unfold vcGD vcOD at *
 rw[hg]at *
 simp only[h3]at h ⊢
 cases ho:c.c.op<;>rw[ho]at h3<;>simp only[IOp.cls,reduceCtorEq,Nat.reduceEqDiff]at h3
 rename_i n x y
 rw[ho]at h
 simp only[vcO,stOK]at h ⊢
 obtain⟨hk,h⟩:=h
 split at h
 ·rename_i t b o l' e1 e2
  rw[e1]at hk
  simp only at hk
  split at h
  ·rename_i b' l e3
   obtain⟨rfl,g1,g2,g3,g4⟩:=h
   refine⟨t,b,l,_,e3,fun s hs=> ?_,g4,fun σ' K' hl hk'=> ?_⟩
   ·rw[hs]at hk
    simp only at hk
    split at hk
    ·rename_i t' e4
     simp only[Bool.and_eq_true,Bool.or_eq_true,Bool.not_eq_true']at hk
     have:=Nat.eq_of_beq_eq_true hk.1
     subst this
     refine⟨e4,fun ha=> ?_⟩
     rcases hk.2 with h|h
     ·rw[ha]at h;cases h
     ·exact Nat.eq_of_beq_eq_true h
    ·cases hk
   ·rw[e1]
    simp only[hk,hl,e2,e3,true_and]
    exact⟨g1,g2,g3,hk'⟩
  ·exact h.elim
 ·exact h.elim
theorem isApp_cls{op:IOp}(h:isApp op=true):op.cls=4:=by cases op<;>first|rfl|cases h
theorem app_to{d:Option Nat}{E E':List PanicEntry→Store→Prop}{op:IOp}(ha:isApp op=true)(hs:StEq σ σ')
  (hk:∀ y σ1 σ1',StEq σ1 σ1'∧(σ=σ'→σ1=σ1')→(∀ t b l,d.getD 0≠t→lkt σ t=some (b,.cells l)→lkt σ1 t=some (b,.cells l))→K y σ1→K' y σ1') (h:vcO P cfg d rg σ K E op):vcO P cfg d rg σ' K' E' op:=by
 cases op<;>first|cases ha|skip
 have hcons:∀ (b:Nat) (x:Blk),∀ t b' l,d.getD 0≠t→lkt σ t=some (b',.cells l)→lkt ((d.getD 0,b,x)::σ) t=some (b',.cells l):=fun b x t b' l hne hl=>by
  rw[lkt_cons,if_neg hne];exact hl
 simp only[vcO]at h ⊢
 split at h
 ·exact⟨h.1,fun e=>hk _ _ _ ⟨hs,fun e=>e⟩ (fun _ _ _ _ hl=>hl) (h.2.1 e),fun e b u c=>hk _ _ _ ⟨hs.cons _,fun e=>by rw[e]⟩ (hcons _ _) (h.2.2 e b u c)⟩
 ·refine⟨h.1,(hs.1 _).symm.trans h.2.1,h.2.2.1,h.2.2.2.1,fun b u c=>hk _ _ _ ⟨hs.upt h.2.1 _ _,fun e=>by rw[e]⟩ (fun t b' l _ hl=> ?_) (h.2.2.2.2 b u c)⟩
  rw[lkt_upt h.2.1,if_neg (fun e=>by subst e;rw[h.2.1]at hl;cases hl)];exact hl
 ·exact⟨h.1,h.2.1,fun e=>hk _ _ _ ⟨hs,fun e=>e⟩ (fun _ _ _ _ hl=>hl) (h.2.2.1 e),fun e b u c=>hk _ _ _ ⟨hs.cons _,fun e=>by rw[e]⟩ (hcons _ _) (h.2.2.2 e b u c)⟩
 ·exact h.elim
theorem app_G(ha:isApp c.c.op=true)(hg:c.c.g=none)(hs:StEq σ σ')
  (hk:∀ y σ1 σ1',StEq σ1 σ1'∧(σ=σ'→σ1=σ1')→(∀ t b l,c.c.d.getD 0≠t→lkt σ t=some (b,.cells l)→lkt σ1 t=some (b,.cells l))→K y σ1→K' y σ1') (h:vcGD P cfg als c K rg σ):vcGD P cfg als c K' rg σ':=by
 have hc:=isApp_cls ha
 unfold vcGD vcOD at *
 rw[hg]at *
 simp only[hc]at h ⊢
 exact⟨h.1,app_to ha hs hk h.2⟩
def Step(als:List Nat)(c:CD)(rg:Regs)(σ σ2:Store):Prop:=
 (c.c.op.cls≤1→σ2=σ)∧(c.c.op.cls=2→∃ b x,σ2=(c.c.d.getD 0,b,x)::σ)∧
 (c.c.op.cls=3→∃ t b x l,lkt σ t=some (b,.cells l)∧σ2=upt σ t b x∧∀ s,c.cf=[s]→labOf (lk rg s)=some t∧(als.elem s=true→s=t))∧
 (c.c.op.cls=4→∀ t b l,c.c.d.getD 0≠t→lkt σ t=some (b,.cells l)→lkt σ2 t=some (b,.cells l))
theorem one_of{x:CD}(h:oneOK x=true):(x.c.op.cls≤1∨(x.c.op.cls=2∧x.c.g=none∧x.c.d.isSome=true)∨(x.c.op.cls=3∧x.c.g=none))∨(isApp x.c.op=true∧x.c.op.cls=4∧x.c.g=none):=by
 unfold oneOK at h
 simp only[Bool.and_eq_true,Bool.or_eq_true,Nat.ble_eq,Bool.not_eq_true',Option.isNone_iff_eq_none]at h
 obtain⟨⟨h1,h2⟩,h3⟩:=h
 rcases h1 with h1|h1
 rotate_left
 ·have h4:=isApp_cls h1
  refine .inr ⟨h1,h4,?_⟩
  rcases h2 with h2|h2
  ·omega
  ·exact h2
 left
 rcases Nat.lt_or_ge x.c.op.cls 2 with h|h
 ·exact .inl (by omega)
 ·right
  have hg:x.c.g=none:=by
   rcases h2 with h2|h2
   ·omega
   ·exact h2
  rcases Nat.lt_or_ge x.c.op.cls 3 with h'|h'
  ·have e:x.c.op.cls=2:=by omega
   left
   refine⟨e,hg,?_⟩
   rcases h3 with h3|h3
   ·rw[e]at h3;simp at h3
   ·exact h3
  ·exact .inr ⟨by omega,hg⟩
theorem vcGD_step(ho:oneOK c=true)(h:vcGD P cfg als c K rg σ)(hk:∀ y σ2,Step als c rg σ σ2→K y σ2→K' y σ2):vcGD P cfg als c K' rg σ:=by
 rcases one_of ho with(h1|⟨h2,hg,_⟩|⟨h3,hg⟩)|⟨ha,h4,hg⟩
 ·obtain⟨x,hx,hv⟩:=det h1 h
  exact hv σ (fun _ _ _ _ _ _ h=>h) _ (hk _ _ ⟨fun _=>rfl,fun e=>by omega,fun e=>by omega,fun e=>by omega⟩ hx)
 ·obtain⟨l,hl,hb⟩:=(vcA_iff h2 hg).1 h
  exact(vcA_iff h2 hg).2 ⟨l,hl,fun b=>hk _ _ ⟨fun e=>by omega,fun _=>⟨b,_,rfl⟩,fun e=>by omega,fun e=>by omega⟩ (hb b)⟩
 ·obtain⟨t,b,l,x,g1,g2,g3,g4⟩:=vcS_form h3 hg h
  exact g4 σ _ rfl (hk _ _ ⟨fun e=>by omega,fun e=>by omega,fun _=>⟨t,b,x,l,g1,rfl,g2⟩,fun e=>by omega⟩ g3)
 ·have hK:vcGD P cfg als c (fun y σ2=>K y σ2∧Step als c rg σ σ2) rg σ:=by
   have hc:=h4
   unfold vcGD vcOD at h ⊢
   rw[hg]at h ⊢
   simp only[hc]at h ⊢
   refine⟨h.1,?_⟩
   have h:=h.2
   obtain⟨ix,⟨d,op,g⟩,cf⟩:=c
   simp only at *
   cases op<;>first|cases ha|skip
   have hS:∀ σ2,(∀ t b l,d.getD 0≠t→lkt σ t=some (b,.cells l)→lkt σ2 t=some (b,.cells l))→∀ o:IOp,o.cls=4→Step als ⟨ix,⟨d,o,g⟩,cf⟩ rg σ σ2:=fun σ2 hh o ho=>⟨fun e=>by simp only at e;omega,fun e=>by simp only at e;omega,fun e=>by simp only at e;omega,fun _=>hh⟩
   have hcons:∀ (b:Nat) (x:Blk),∀ t b' l,d.getD 0≠t→lkt σ t=some (b',.cells l)→lkt ((d.getD 0,b,x)::σ) t=some (b',.cells l):=fun b x t b' l hne hl=>by
    rw[lkt_cons,if_neg hne];exact hl
   simp only[vcO]at h ⊢
   split at h
   ·exact⟨h.1,fun e=>⟨h.2.1 e,hS _ (fun _ _ _ _ hl=>hl) _ hc⟩,fun e b u c=>⟨h.2.2 e b u c,hS _ (hcons _ _) _ hc⟩⟩
   ·refine⟨h.1,h.2.1,h.2.2.1,h.2.2.2.1,fun b u c=>⟨h.2.2.2.2 b u c,hS _ (fun t b' l _ hl=> ?_) _ hc⟩⟩
    rw[lkt_upt h.2.1,if_neg (fun e=>by subst e;rw[h.2.1]at hl;cases hl)];exact hl
   ·exact⟨h.1,h.2.1,fun e=>⟨h.2.2.1 e,hS _ (fun _ _ _ _ hl=>hl) _ hc⟩,fun e b u c=>⟨h.2.2.2 e b u c,hS _ (hcons _ _) _ hc⟩⟩
   ·exact h.elim
  exact app_G ha hg (StEq.refl σ) (fun y σ1 σ1' h1 _ hy=>by obtain rfl:=h1.2 rfl;exact hk y σ1 hy.2 hy.1) hK
theorem vcGD_eqv(ho:oneOK c=true)(hs:StEq σ σ')(h:vcGD P cfg als c K rg σ)(hk:∀ y σ1 σ1',StEq σ1 σ1'→K y σ1→K' y σ1'):vcGD P cfg als c K' rg σ':=by
 rcases one_of ho with(h1|⟨h2,hg,_⟩|⟨h3,hg⟩)|⟨ha,h4,hg⟩
 ·obtain⟨x,hx,hv⟩:=det h1 h
  exact hv σ' (fun _ t _ _ b l hl=>(hs.1 _).symm.trans hl) _ (hk _ _ _ hs hx)
 ·obtain⟨l,hl,hb⟩:=(vcA_iff h2 hg).1 h
  exact(vcA_iff h2 hg).2 ⟨l,hl,fun b=>hk _ _ _ (hs.cons _) (hb b)⟩
 ·obtain⟨t,b,l,x,g1,g2,g3,g4⟩:=vcS_form h3 hg h
  exact g4 σ' _ (hs.1 t).symm (hk _ _ _ (hs.upt g1 b x) g3)
 ·exact app_G ha hg hs (fun y σ1 σ1' h1 _ h2=>hk y σ1 σ1' h1.1 h2) h
def Closed(K:Regs→Store→Prop):Prop:=∀ rg rg' σ σ',(∀ i,lk rg i=lk rg' i)→StEq σ σ'→K rg σ→K rg' σ'
theorem vcM_closed{K:Regs→Store→Prop}(hK:Closed K):∀ (l:List CD),(∀ x∈l,oneOK x=true)→Closed (vcM P cfg als l K)
 |[],_=>hK
 |c::l,ho=>fun rg rg' σ σ' hr hs h=>by
  simp only[vcM]at h ⊢
  refine vcGD_local (fun t _=>hr t) (vcGD_eqv (ho c (by simp)) hs h fun y σ1 σ1' hs1 hk=> ?_)
  exact vcM_closed hK l (fun x hx=>ho x (by simp[hx])) _ _ _ _ (lk_put_congr hr _ _) hs1 hk
theorem put_local{d:Option Nat}{x:AV}(h:noD d c=true):∀ t∈rdD c,lk (putR d x rg) t=lk rg t:=by
 intro t ht
 cases d with
 |none=>rfl
 |some d=>
  simp only[noD,Bool.and_eq_true,Bool.not_eq_true']at h
  have hne:d≠t:=fun e=>by
   subst e
   rcases List.mem_append.1 ht with ht|ht
   ·have:=List.elem_eq_true_of_mem ht;rw[h.1]at this;cases this
   ·have:=List.elem_eq_true_of_mem ht;rw[h.2]at this;cases this
  simp only[putR,lk_cons,if_neg hne]
theorem put_swap{d d':Option Nat}{x y:AV}(h:d.isNone=true∨d≠d')(i:Nat):lk (putR d x (putR d' y rg)) i=lk (putR d' y (putR d x rg)) i:=by
 cases d with
 |none=>rfl
 |some d=>
  cases d' with
  |none=>rfl
  |some d'=>
   have hne:d≠d':=by rcases h with h|h<;>simp_all
   simp only[putR,lk_cons]
   by_cases h1:d=i<;>by_cases h2:d'=i<;>simp_all
theorem swapD{a:CD}{Z:Regs→Store→Prop}(hz:Closed Z)(hc:commD als a c=true)(ha:oneOK a=true)(ho:oneOK c=true)
  (h:vcGD P cfg als a (fun x σ1=>vcGD P cfg als c (fun y σ2=>Z (putR c.c.d y (putR a.c.d x rg)) σ2) (putR a.c.d x rg) σ1) rg σ):
  vcGD P cfg als c (fun y σ2=>vcGD P cfg als a (fun x σ1=>Z (putR a.c.d x (putR c.c.d y rg)) σ1) (putR c.c.d y rg) σ2) rg σ:=by
 unfold commD at hc
 simp only[Bool.and_eq_true,Bool.or_eq_true,decide_eq_true_eq]at hc
 obtain⟨⟨⟨hn1,hn2⟩,hdd⟩,hcls⟩:=hc
 rcases one_of ha with(h1|⟨h2,hg,hsome⟩|⟨h3,hg⟩)|⟨_,h4,_⟩
 ·obtain⟨x,hx,hD⟩:=det h1 h
  have hx':=vcGD_local (rg':=rg) (put_local hn1) hx
  refine vcGD_step ho hx' fun y σ2 hst hZ=> ?_
  refine vcGD_local (rg:=rg) (fun t ht=>(put_local hn2 t ht).symm) (hD σ2 (fun h1=> ?_) _ (hz _ _ _ _ (fun i=>(put_swap hdd i).symm) (StEq.refl _) hZ))
  rw[h1]at hcls
  intro t ht hcf b0 l0 hl0
  rcases one_of ho with(k1|⟨k2,_,k3⟩|⟨k3,_⟩)|⟨_,k4,_⟩
  ·rw[hst.1 k1];exact hl0
  rotate_left 2
  ·refine hst.2.2.2 k4 t b0 l0 ?_ hl0
   rw[k4]at hcls
   simp only at hcls
   split at hcls
   ·rename_i d hd
    rw[hd]
    intro e
    have e:d=t:=e
    subst e
    rw[ht]at hcls;cases hcls
   ·cases hcls
  ·obtain⟨b,v,rfl⟩:=hst.2.1 k2
   rw[k2]at hcls
   simp only at hcls
   split at hcls
   ·rename_i d hd
    rw[hd,lkt_cons,if_neg]
    ·exact hl0
    intro e
    have e:d=t:=e
    subst e
    rw[ht]at hcls;cases hcls
   ·cases hcls
  ·obtain⟨t',b,v,l,g1,rfl,g2⟩:=hst.2.2.1 k3
   rw[k3]at hcls
   simp only at hcls
   split at hcls
   ·rename_i s hs
    rw[lkt_upt g1,if_neg]
    ·exact hl0
    rintro rfl
    obtain⟨g3,g4⟩:=g2 s hs
    simp only[Bool.or_eq_true]at hcls
    rcases hcls with hcls|hcls
    ·exact hcf s (List.mem_of_elem_eq_true hcls) g3
    ·have:=g4 hcls;subst this;rw[ht]at hcls;cases hcls
   ·cases hcls
 ·rw[h2]at hcls
  have k2:c.c.op.cls=2∧c.c.g=none∧c.c.d.isSome=true:=by
   rcases one_of ho with(k1|k2|⟨k3,_⟩)|⟨_,k4,_⟩
   ·exfalso
    generalize c.c.op.cls=m at k1 hcls
    match m,k1,hcls with
    |0,_,h=>cases h
    |1,_,h=>cases h
   ·exact k2
   ·rw[k3]at hcls;cases hcls
   ·rw[k4]at hcls;cases hcls
  obtain⟨k2,kg,ksome⟩:=k2
  obtain⟨l,hl,hb⟩:=(vcA_iff h2 hg).1 h
  have hrd:∀ (x:CD) t,t∈tmpsOf x.c.op.opers→t∈rdD x:=fun x t ht=>by unfold rdD CI.reads;exact List.mem_append_left _ (List.mem_append_left _ ht)
  obtain⟨l',hl',_⟩:=(vcA_iff k2 kg).1 (hb 0)
  rw[alC_local (rg':=rg) fun t ht=>put_local hn1 t (hrd c t ht)]at hl'
  refine(vcA_iff k2 kg).2 ⟨l',hl',fun b'=>(vcA_iff h2 hg).2 ⟨l,?_,fun b=> ?_⟩⟩
  ·rw[alC_local (rg':=rg) fun t ht=>put_local hn2 t (hrd a t ht)];exact hl
  ·obtain⟨l2,hl2,hb2⟩:=(vcA_iff k2 kg).1 (hb b)
   rw[alC_local (rg':=rg) fun t ht=>put_local hn1 t (hrd c t ht),hl']at hl2
   cases hl2
   refine hz _ _ _ _ (fun i=>(put_swap hdd i).symm) ?_ (hb2 b')
   refine StEq.swap ?_ σ
   obtain⟨d,hd⟩:=Option.isSome_iff_exists.1 hsome
   obtain⟨d',hd'⟩:=Option.isSome_iff_exists.1 ksome
   rw[hd,hd']at hdd ⊢
   simp only[Option.isNone_some,Bool.false_eq_true,false_or,Option.getD_some,ne_eq,Option.some.injEq]at hdd ⊢
   exact fun e=>hdd e.symm
 ·rw[h3]at hcls
  cases hcls
 ·rw[h4]at hcls
  cases hcls
theorem frontD{K:Regs→Store→Prop}(hK:Closed K)(ho:oneOK c=true):∀ (A B:List CD) (rg:Regs) (σ:Store),(∀ a∈A,commD als a c=true∧oneOK a=true)→(∀ b∈B,oneOK b=true)→
  vcM P cfg als (A++c::B) K rg σ→vcGD P cfg als c (fun y σ2=>vcM P cfg als (A++B) K (putR c.c.d y rg) σ2) rg σ
 |[],B,rg,σ,_,_,h=>h
 |a::A,B,rg,σ,hA,hB,h=>by
  simp only[List.cons_append,vcM]at h ⊢
  have ha:=hA a (by simp)
  refine swapD (Z:=vcM P cfg als (A++B) K) (vcM_closed hK _ fun x hx=> ?_) ha.1 ha.2 ho (vcGD_step ha.2 h fun x σ1 _ hv=> ?_)
  ·rcases List.mem_append.1 hx with hx|hx
   ·exact(hA x (by simp[hx])).2
   ·exact hB x hx
  ·exact frontD hK ho A B _ σ1 (fun x hx=>hA x (by simp[hx])) hB hv
theorem vcGD_G{E:List PanicEntry→Store→Prop}(ho:oneOK c=true)(h:vcGD P cfg als c K rg σ):vcG P cfg c.c K E rg σ:=by
 have hop:vcOD P cfg als c.cf c.c.d rg σ K c.c.op→vcO P cfg c.c.d rg σ K E c.c.op:=by
  intro h
  unfold vcOD at h
  split at h
  ·obtain⟨x,hx,hv⟩:=vcOQ_det h;exact hv _ _ hx
  ·rename_i h1
   obtain⟨x,hx,hv⟩:=load_det h1 h.1 h.2
   exact hv σ (fun _ _ _ _ _ h=>h) _ _ hx
  ·rename_i h2
   cases hop:c.c.op<;>rw[hop]at h2 h<;>simp only[IOp.cls,reduceCtorEq,Nat.reduceEqDiff]at h2<;>exact h
  ·rename_i h2
   cases hop:c.c.op<;>rw[hop]at h2 h<;>simp only[IOp.cls,reduceCtorEq,Nat.reduceEqDiff]at h2
   exact h.2
  ·have ha:=h.1
   rw[Bool.and_eq_true]at ha
   exact app_to (hs:=StEq.refl σ) ha.1 (fun y σ1 σ1' h1 _ hy=>by obtain rfl:=h1.2 rfl;exact hy) h.2
  ·exact h.elim
 unfold vcGD at h
 unfold vcG
 cases hg:c.c.g with
 |none=>rw[hg]at h;exact hop h
 |some p=>
  obtain⟨u,want⟩:=p
  rw[hg]at h
  simp only at h ⊢
  split at h
  ·rename_i b he;simp only[he];exact⟨fun hb=>hop (h.1 hb),h.2⟩
  ·rename_i he;simp only[he];exact h
  ·exact h.elim
end
def Cl(K:Regs→Store→Prop)(rg:Regs)(σ:Store):Prop:=∃ rg' σ',(∀ i,lk rg' i=lk rg i)∧StEq σ' σ∧K rg' σ'
theorem Cl.intro{K:Regs→Store→Prop}{rg:Regs}{σ:Store}(h:K rg σ):Cl K rg σ:=⟨rg,σ,fun _=>rfl,StEq.refl _,h⟩
theorem Cl.closed(K:Regs→Store→Prop):Closed (Cl K):=fun _ _ _ _ hr hs ⟨rg',σ',h1,h2,h3⟩=>⟨rg',σ',fun i=>(h1 i).trans (hr i),h2.trans hs,h3⟩
def Pair(ops:Array Oper)(als:List Nat)(a c:CD):Prop:=hasE ops a.ix c.ix=false∧(hasE ops c.ix a.ix=true∨commD als a c=true∨hasR ops 2 c.ix a.ix=true)
theorem pairOK_pw{ops:Array Oper}{als:List Nat}:∀ (l:List CD),pairOK ops als l=true→l.Pairwise (Pair ops als)
 |[],_=> .nil
 |a::l,h=>by
  simp only[pairOK,Bool.and_eq_true,List.all_eq_true,Bool.or_eq_true,Bool.not_eq_true']at h
  exact .cons (fun c hc=>⟨(h.1.2 c hc).1,by
   rcases(h.1.2 c hc).2 with(k|k)|k
   ·exact .inl k
   ·exact .inr (.inl k)
   ·exact .inr (.inr k.2)⟩) (pairOK_pw l h.2)
theorem hasR_done{ops:Array Oper}{p:Nat→Bool}(hd:∀ i,p i=true→∀ j,hasE ops i j=true→p j=true):∀ (n i j:Nat),(∀ b,hasE ops i b=true→p b=true)→hasR ops n i j=true→p j=true
 |0,i,j,hi,h=>hi j h
 |n+1,i,j,hi,h=>by
  rw[hasR,Bool.or_eq_true]at h
  rcases h with h|h
  ·exact hi j h
  ·obtain⟨b,_,hb⟩:=List.any_eq_true.1 h
   rw[Bool.and_eq_true]at hb
   exact hasR_done hd n b j (fun c hc=>hd b (hi b hb.1) c hc) hb.2
theorem pairOK_self{ops:Array Oper}{als:List Nat}:∀ (l:List CD),pairOK ops als l=true→∀ x∈l,hasE ops x.ix x.ix=false
 |[],_,x,hx=>by cases hx
 |a::l,h,x,hx=>by
  simp only[pairOK,Bool.and_eq_true,Bool.not_eq_true']at h
  rcases List.mem_cons.1 hx with rfl|hx
  ·exact h.1.1
  ·exact pairOK_self l h.2 x hx
section
variable {P:Program}[Glob P]{M:Mem}{w0:World}{σ:Store}{rg:Regs}{cfg:Nat→Nat}{N:Nat}{als:List Nat}
theorem vcM_mono{K K':Regs→Store→Prop}(hk:∀ rg σ,K rg σ→K' rg σ):∀ (l:List CD) (rg:Regs) (σ:Store),(∀ x∈l,oneOK x=true)→vcM P cfg als l K rg σ→vcM P cfg als l K' rg σ
 |[],rg,σ,_,h=>hk _ _ h
 |c::l,rg,σ,ho,h=>vcGD_step (ho c (by simp)) h fun y σ2 _ hv=>vcM_mono hk l _ σ2 (fun x hx=>ho x (by simp[hx])) hv
theorem SW_mreg{l:List CD}{Q:Exit→Regs→Store→Prop}(cfg:Nat→Nat)(h:vcM P cfg als l (Q .normal) rg σ):SW P N (.mreg als l) Q rg σ:=by
 intro c hc M w0 a w hI hR hN hD
 obtain⟨id,ops,cl,rfl,hcl,hget,hok,hfol⟩:=compC_inv hc
 obtain⟨hlen,hcomp⟩:=compL_get ops.toList cl hcl
 unfold mixOK at hok
 simp only[Bool.and_eq_true,decide_eq_true_eq]at hok
 obtain⟨⟨⟨⟨⟨hnd,hll⟩,hcov⟩,hone⟩,hbnd⟩,hpair⟩:=hok
 have hself:=pairOK_self l hpair
 have hll:=Nat.le_of_ble_eq_true hll
 have hone':∀ x∈l,oneOK x=true:=List.all_eq_true.1 hone
 have hpw:=pairOK_pw l hpair
 have hlt:∀ x∈l,x.ix<ops.size:=fun x hx=>by
  have:=(List.getElem?_eq_some_iff.1 (hget x hx)).1
  rw[hlen]at this
  simpa using this
 have hK:=Cl.closed (Q .normal)
 have h':=vcM_mono (K':=Cl (Q .normal)) (fun _ _=>Cl.intro) l rg σ hone' h
 refine cwp_any hfol ?_
 have main:∀ (fuel:Nat) (L:List CD) (listed:Array Bool) (a:Act) (w:World),listed.size=ops.size→L.length≤fuel→L.Sublist l→
   (∀ i,i<ops.size→(listed.getD i true=false↔∃ x∈L,x.ix=i))→(∀ i,listed.getD i false=true→∀ j,hasE ops i j=true→listed.getD j false=true)→
   (∃ M2 rg2 σ2,M.le M2∧Inv P M2 w0 σ2 w∧RegsOK M2 rg2 a∧a.tmps.size=N∧a.defers=[]∧vcM P cfg als L (Cl (Q .normal)) rg2 σ2)→
   wpAny P .any ops (conc P M w0 N Q) fuel listed a w:=by
  have fin:∀ (a:Act) (w:World),(∃ M2 rg2 σ2,M.le M2∧Inv P M2 w0 σ2 w∧RegsOK M2 rg2 a∧a.tmps.size=N∧a.defers=[]∧vcM P cfg als [] (Cl (Q .normal)) rg2 σ2)→conc P M w0 N Q .normal a w:=by
   rintro a w ⟨M2,rg2,σ2,g1,g2,g3,g4,g5,rg3,σ3,k1,k2,k3⟩
   exact⟨M2,rg3,σ3,g1,g2.perm k2.2.symm,fun i=>by rw[k1];exact g3 i,g4,g5,k3⟩
  intro fuel
  induction fuel with
  |zero=>
   intro L listed a w hsz hcnt hsub hL hdn hst
   obtain rfl:L=[]:=List.length_eq_zero_iff.1 (by omega)
   refine⟨?_,fin a w hst⟩
   unfold Region.ready
   rw[List.filter_eq_nil_iff]
   intro i hi
   have hi':i<ops.size:=by simpa using hi
   have:listed.getD i true=true:=by
    cases hli:listed.getD i true with
    |true=>rfl
    |false=>obtain⟨x,hx,_⟩:=(hL i hi').1 hli;cases hx
   simp[this]
  |succ fuel ih=>
   intro L listed a w hsz hcnt hsub hL hdn hst
   have hbool:∀ i,i<ops.size→listed.getD i false=listed.getD i true:=fun i hi=>by
    rw[Array.getD_eq_getD_getElem?,Array.getD_eq_getD_getElem?,Array.getElem?_eq_getElem (by omega)];rfl
   refine⟨fun hr=> ?_,fun i hi=> ?_⟩
   ·cases L with
    |nil=>exact fin a w hst
    |cons x L=>
     exfalso
     have hx:=hsub.subset (List.mem_cons_self)
     have hxl:=hlt x hx
     have hpwL:=hpw.sublist hsub
     have:x.ix∈Region.ready .any ops listed:=by
      unfold Region.ready
      rw[List.mem_filter]
      refine⟨by simpa using hxl,?_⟩
      have hli:listed.getD x.ix true=false:=(hL x.ix hxl).2 ⟨x,by simp,rfl⟩
      simp only[hli,Bool.not_false,Bool.true_and,Array.getElem?_eq_getElem hxl,Option.map_some,Option.getD_some]
      rw[Array.all_eq_true_iff_forall_mem]
      intro e he
      cases hbe:Region.binds .any e with
      |false=>rfl
      |true=>
       have hon:e.on<ops.size:=by
        have h1:=Array.all_eq_true_iff_forall_mem.1 hbnd _ (Array.getElem_mem hxl)
        have h2:=Array.all_eq_true_iff_forall_mem.1 h1 e he
        simpa[hbe]using h2
       have:listed.getD e.on true=true:=by
        cases hle:listed.getD e.on true with
        |true=>rfl
        |false=>
         exfalso
         obtain⟨y,hy,hyi⟩:=(hL e.on hon).1 hle
         have hE:hasE ops x.ix y.ix=true:=by
          unfold hasE
          rw[Array.getElem?_eq_getElem hxl]
          simp only[Array.any_eq_true]
          obtain⟨m,hm,hme⟩:=Array.mem_iff_getElem.1 he
          exact⟨m,hm,by rw[hme,hbe,hyi];simp⟩
         rcases List.mem_cons.1 hy with rfl|hy
         ·
          have:=(hself y hx)
          rw[this]at hE;cases hE
         ·have:=(List.rel_of_pairwise_cons hpwL hy).1
          rw[this]at hE;cases hE
       simp[hbool e.on hon,this]
     rw[hr]at this
     cases this
   ·unfold Region.ready at hi
    rw[List.mem_filter]at hi
    obtain⟨hi1,hi2⟩:=hi
    have hio:i<ops.size:=by simpa using hi1
    simp only[Bool.and_eq_true,Bool.not_eq_true',Array.getElem?_eq_getElem hio,Option.map_some,Option.getD_some]at hi2
    obtain⟨hnl,hdeps⟩:=hi2
    obtain⟨x,hxL,rfl⟩:=(hL i hio).1 hnl
    obtain⟨A,B,rfl⟩:=List.append_of_mem hxL
    have hx:=hsub.subset hxL
    obtain⟨M2,rg2,σ2,g1,g2,g3,g4,g5,g6⟩:=hst
    have hpwL:=hpw.sublist hsub
    have hrdy:∀ b,hasE ops x.ix b=true→listed.getD b false=true:=fun b hb=>by
     unfold hasE at hb
     rw[Array.getElem?_eq_getElem hio]at hb
     simp only[Array.any_eq_true,Bool.and_eq_true,beq_iff_eq]at hb
     obtain⟨m,hm,hbm,hon⟩:=hb
     have:=Array.all_eq_true_iff_forall_mem.1 hdeps _ (Array.getElem_mem hm)
     rw[hbm,hon]at this
     simpa using this
    have hA:∀ a∈A,commD als a x=true∧oneOK a=true:=by
     intro b hb
     refine⟨?_,hone' b (hsub.subset (by simp[hb]))⟩
     have hp:=(List.pairwise_append.1 hpwL).2.2 b hb x (by simp)
     rcases hp.2 with hE|hc|hR
     rotate_left 2
     ·exfalso
      have:=hasR_done (p:=fun i=>listed.getD i false) hdn 2 x.ix b.ix hrdy hR
      have hbl:=hlt b (hsub.subset (by simp[hb]))
      try simp only at this
      rw[hbool _ hbl,(hL b.ix hbl).2 ⟨b,by simp[hb],rfl⟩]at this
      cases this
     ·exfalso
      unfold hasE at hE
      rw[Array.getElem?_eq_getElem hio]at hE
      simp only[Array.any_eq_true,Bool.and_eq_true,beq_iff_eq]at hE
      obtain⟨m,hm,hbm,hon⟩:=hE
      have:=Array.all_eq_true_iff_forall_mem.1 hdeps _ (Array.getElem_mem hm)
      rw[hbm,hon]at this
      have hbl:=hlt b (hsub.subset (by simp[hb]))
      rw[hbool _ hbl,(hL b.ix hbl).2 ⟨b,by simp[hb],rfl⟩]at this
      simp at this
     ·exact hc
    have hfr:=frontD hK (hone' x hx) A B rg2 σ2 hA (fun b hb=>hone' b (hsub.subset (by simp[hb]))) g6
    have hq:=vcGD_G (E:=fun _ _=>False) (hone' x hx) hfr
    have hci:compI P N ops ops[x.ix]=some x.c:=by
     have hcl':x.ix<cl.length:=by rw[hlen];simpa using hio
     have:=hcomp x.ix (by simpa using hio) hcl'
     have e:=hget x hx
     rw[List.getElem?_eq_getElem hcl']at e
     have e:=Option.some.inj e
     rw[← e]
     simpa using this
    obtain⟨hdst,hltN⟩:=compI_lt hci
    unfold wpOp
    simp only[Array.getElem?_eq_getElem hio]
    refine guard_sound (E:=fun _ _=>False) hci hq g2 g3 ⟨?_,fun _ _ _ _ _ _ h=>h.elim⟩
    rintro M3 y σ3 v w' hM hI' hy hv
    have hnd':((A++x::B).map (·.ix)).Nodup:=hnd.sublist (hsub.map _)
    refine ih (A++B) _ _ _ (by simp[hsz]) (by simp at hcnt ⊢;omega) (List.Sublist.trans (List.Sublist.append (List.Sublist.refl A) (List.sublist_cons_self x B)) hsub) (fun j hj=> ?_) (fun i hi j hij=> ?_)
     ⟨M3,_,σ3,g1.trans hM,hI',by rw[hdst];exact(g3.mono hM).put _ (fun t ht=>by rw[g4];exact hltN t (hdst.trans ht)) hy,by rw[Act.size_put];exact g4,by rw[Act.defers_put];exact g5,hv⟩
    rotate_left
    ·have hmono:∀ k,listed.getD k false=true→(listed.setIfInBounds x.ix true).getD k false=true:=fun k hk=>by
      rw[Array.getD_eq_getD_getElem?]at hk ⊢
      rw[Array.getElem?_setIfInBounds]
      split
      ·rename_i e;subst e;simp[hsz,hio]
      ·exact hk
     by_cases hxi:x.ix=i
     ·subst hxi;exact hmono j (hrdy j hij)
     ·refine hmono j (hdn i ?_ j hij)
      rw[Array.getD_eq_getD_getElem?,Array.getElem?_setIfInBounds,if_neg hxi]at hi
      rw[Array.getD_eq_getD_getElem?];exact hi
    have hnx:∀ z∈A++B,z.ix≠x.ix:=by
     intro z hz e
     have hp:((x::(A++B)).map (·.ix)).Nodup:=(((List.perm_middle (a:=x) (l₁:=A) (l₂:=B)).map (·.ix)).nodup_iff).1 hnd'
     rw[List.map_cons,List.nodup_cons]at hp
     exact hp.1 (by rw[← e];exact List.mem_map_of_mem hz)
    by_cases hji:x.ix=j
    ·subst hji
     have e:(listed.setIfInBounds x.ix true).getD x.ix true=true:=by
      rw[Array.getD_eq_getD_getElem?,Array.getElem?_setIfInBounds];simp[hsz,hio]
     rw[e]
     exact⟨fun h=>(nomatch h),fun⟨z,hz,e⟩=>absurd e (hnx z hz)⟩
    ·have e:(listed.setIfInBounds x.ix true).getD j true=listed.getD j true:=by
      rw[Array.getD_eq_getD_getElem?,Array.getElem?_setIfInBounds,if_neg hji,Array.getD_eq_getD_getElem?]
     rw[e,hL j hj]
     constructor
     ·rintro⟨z,hz,rfl⟩
      refine⟨z,?_,rfl⟩
      rcases List.mem_append.1 hz with hz|hz
      ·exact List.mem_append_left _ hz
      ·rcases List.mem_cons.1 hz with rfl|hz
       ·exact absurd rfl hji
       ·exact List.mem_append_right _ hz
     ·rintro⟨z,hz,rfl⟩
      refine⟨z,?_,rfl⟩
      rcases List.mem_append.1 hz with hz|hz
      ·exact List.mem_append_left _ hz
      ·exact List.mem_append_right _ (List.mem_cons_of_mem _ hz)
 have hcov':∀ i,i<ops.size→∃ x∈l,x.ix=i:=fun i hi=>by
  have:=List.all_eq_true.1 hcov i (by simpa using hi)
  obtain⟨x,hx,e⟩:=List.any_eq_true.1 this
  exact⟨x,hx,Nat.eq_of_beq_eq_true e⟩
 refine main ops.size l _ a _ (by simp) hll (List.Sublist.refl _) (fun i hi=> ?_) (fun i hi=> ?_) ⟨M,rg,σ,Mem.le.refl _,hI.drew',hR,hN,hD,h'⟩
 rotate_left
 ·exfalso
  rw[Array.getD_eq_getD_getElem?,Array.getElem?_replicate]at hi
  split at hi<;>cases hi
 have e:(Array.replicate ops.size false).getD i true=false:=by simp[hi]
 exact⟨fun _=>hcov' i hi,fun _=>e⟩
theorem SW_cl{s:SC}{Q:Exit→Regs→Store→Prop}(h:SW P N s (fun e=>Cl (Q e)) rg σ):SW P N s Q rg σ:=
 fun c hc M w0 a w hI hR hN hD=>cwp_mono (h c hc M w0 a w hI hR hN hD) fun _ _ _ ⟨M2,rg2,σ2,h1,h2,h3,h4,h5,rg3,σ3,k1,k2,k3⟩=>
  ⟨M2,rg3,σ3,h1,h2.perm k2.2.symm,fun i=>by rw[k1];exact h3 i,h4,h5,k3⟩
def bare(l:List CI):List CD:=l.map fun c=>⟨0,c,[]⟩
theorem vcM_chain{K:Regs→Store→Prop}:∀ (l:List CI) (rg rg0:Regs),(∀ i,lk rg i=lk rg0 i)→(∀ c∈l,c.op.cls≤1∨(c.op.cls=4∧c.g=none))→vcM P cfg [] (bare l) K rg σ→
  Chain P cfg (fun rg'=>K rg' σ) l rg0 σ
 |[],rg,rg0,he,_,h=>⟨[],rfl,⟨rg,h,he⟩,fun i h=>absurd h (by simp)⟩
 |c::l,rg,rg0,he,hc,h=>by
  have h1:c.op.cls≤1:=by
   rcases hc c (by simp)with h1|⟨h1,h2⟩
   ·exact h1
   ·exfalso
    have h:vcGD P cfg [] ⟨0,c,[]⟩ (fun x σ'=>vcM P cfg [] (bare l) K (putR c.d x rg) σ') rg σ:=h
    unfold vcGD vcOD at h
    simp only[h1,h2]at h
    have:=h.1
    simp at this
  have ho:oneOK ⟨0,c,[]⟩=true:=by
   unfold oneOK
   have h2:Nat.ble c.op.cls 1=true:=Nat.ble_eq_true_of_le h1
   have h3:(Nat.ble c.op.cls 3 || isApp c.op)=true:=by rw[Nat.ble_eq_true_of_le (by omega)];rfl
   have h4:Nat.beq c.op.cls 2=false:=by rw[← Bool.not_eq_true,Nat.beq_eq];omega
   simp only[h2,h3,h4];rfl
  obtain⟨x,hx,hv⟩:=det (c:=⟨0,c,[]⟩) h1 h
  have hq:QV P cfg c rg σ x:=vcGD_G (c:=⟨0,c,[]⟩) (E:=fun _ _=>False) ho (hv σ (fun _ _ _ _ _ _ h=>h) (fun y s=>y=x∧s=σ) ⟨rfl,rfl⟩)
  obtain⟨xs,g1,g2,g3⟩:=vcM_chain l _ (putR c.d x rg0) (lk_put_congr he c.d x) (fun c' h'=>hc c' (by simp[h'])) hx
  refine⟨x::xs,by simp[g1],g2,fun i hi hi'=> ?_⟩
  cases i with
  |zero=>exact QV_local (fun t _=>he t) hq
  |succ i=>simpa[puts]using g3 i (by simpa using hi) (by simpa using hi')
theorem vcM_cls{K:Regs→Store→Prop}:∀ (l:List CI) (rg:Regs),(∀ c∈l,c.op.cls≤1∨(c.op.cls=4∧c.g=none))→vcM P cfg [] (bare l) K rg σ→∀ c∈l,c.op.cls≤1
 |[],_,_,_=>fun _ h=>by cases h
 |c::l,rg,hc,h=>by
  have h1:c.op.cls≤1:=by
   rcases hc c (by simp)with h1|⟨h1,h2⟩
   ·exact h1
   ·exfalso
    have h:vcGD P cfg [] ⟨0,c,[]⟩ (fun x σ'=>vcM P cfg [] (bare l) K (putR c.d x rg) σ') rg σ:=h
    unfold vcGD vcOD at h
    simp only[h1,h2]at h
    have:=h.1
    simp at this
  obtain⟨x,hx,_⟩:=det (c:=⟨0,c,[]⟩) h1 h
  intro c' hc'
  rcases List.mem_cons.1 hc' with rfl|hc'
  ·exact h1
  ·exact vcM_cls l _ (fun c h=>hc c (by simp[h])) hx c' hc'
theorem SW_dregM{l:List CI}{Q:Exit→Regs→Store→Prop}(cfg:Nat→Nat)(h:vcM P cfg [] (bare l) (Cl (Q .normal)) rg σ):SW P N (.dreg l) Q rg σ:=
 SW_cl (SW_chain cfg fun hc=>⟨vcM_chain (K:=Cl (Q .normal)) l rg rg (fun _=>rfl) hc h,vcM_cls l rg hc h⟩)
theorem SW_mregM{l:List CD}{Q:Exit→Regs→Store→Prop}(cfg:Nat→Nat)(h:vcM P cfg als l (Cl (Q .normal)) rg σ):SW P N (.mreg als l) Q rg σ:=
 SW_cl (SW_mreg (Q:=fun e=>Cl (Q e)) cfg h)
end
inductive AC where
 |skip
 |reg (l:List CI)
 |dreg (l:List CI)
 |mreg (als:List Nat) (l:List CD)
 |seq (a b:AC)
 |cond (c:Operand) (t e:AC)
 |block (id:Nat) (b:AC)
 |loop (b:AC)
 |exit (id:Nat)
 |ret
 |keep (ks:List Nat) (a:AC)
 |stop (a:AC)
def AC.erase:AC→SC
 | .skip=> .skip
 | .reg l=> .reg l
 | .dreg l=> .dreg l
 | .mreg als l=> .mreg als l
 | .seq a b=> .seq a.erase b.erase
 | .cond c t e=> .cond c t.erase e.erase
 | .block id b=> .block id b.erase
 | .loop b=> .loop b.erase
 | .exit id=> .exit id
 | .ret=> .ret
 | .keep _ a=>a.erase
 | .stop a=>a.erase
def Stop(P:Program)[Glob P](N:Nat)(a:AC)(Q:Exit→Regs→Store→Prop)(rg:Regs)(σ:Store):Prop:=SW P N a.erase Q rg σ
def vcA(P:Program)[Glob P](N:Nat)(cfg:Nat→Nat):AC→(Exit→Regs→Store→Prop)→Regs→Store→Prop
 | .skip,Q,rg,σ=>Q .normal rg σ
 | .reg l,Q,rg,σ=>vcL P cfg l (Q .normal) (fun ch σ'=>Q (.panic ch) [] σ') rg σ
 | .dreg l,Q,rg,σ=>vcQ P cfg l (fun rg'=>Q .normal rg' σ) rg σ
 | .mreg als l,Q,rg,σ=>vcM P cfg als l (Q .normal) rg σ
 | .seq a b,Q,rg,σ=>vcA P N cfg a (thenQ (vcA P N cfg b Q) Q) rg σ
 | .cond c t e,Q,rg,σ=>match ev rg c with
  | .v (.bool b)=>Gd b true (vcA P N cfg t Q rg σ) (vcA P N cfg e Q rg σ)
  |_=>False
 | .block id b,Q,rg,σ=>vcA P N cfg b (blockQ id Q) rg σ
 | .loop b,Q,rg,σ=>Stop P N (.loop b) Q rg σ
 | .exit id,Q,rg,σ=>Q (.exit id) rg σ
 | .ret,Q,rg,σ=>Q .ret rg σ
 | .keep ks a,Q,rg,σ=>vcA P N cfg a Q (filt ks rg) σ
 | .stop a,Q,rg,σ=>Stop P N a Q rg σ
theorem vcA_sound{P:Program}[Glob P]{N:Nat}(cfg:Nat→Nat):∀ (a:AC) (Q:Exit→Regs→Store→Prop) (rg:Regs) (σ:Store),vcA P N cfg a Q rg σ→SW P N a.erase Q rg σ
 | .skip,Q,rg,σ,h=>SW_skip h
 | .reg l,Q,rg,σ,h=>SW_reg cfg h
 | .dreg l,Q,rg,σ,h=>SW_dreg cfg h
 | .mreg als l,Q,rg,σ,h=>SW_mreg cfg h
 | .seq a b,Q,rg,σ,h=>SW_seq ((vcA_sound cfg a _ rg σ h).mono fun e rg' σ' he=>by
   cases e with
   |normal=>exact vcA_sound cfg b Q rg' σ' he
   |_=>exact he)
 | .cond c t e,Q,rg,σ,h=>by
  simp only[vcA]at h
  split at h
  ·rename_i b hb
   exact SW_cond hb (fun hb=>vcA_sound cfg t Q rg σ (h.l hb)) (fun hb=>vcA_sound cfg e Q rg σ (h.r hb))
  ·exact h.elim
 | .block id b,Q,rg,σ,h=>SW_block (vcA_sound cfg b _ rg σ h)
 | .loop b,Q,rg,σ,h=>h
 | .exit id,Q,rg,σ,h=>SW_exit h
 | .ret,Q,rg,σ,h=>SW_ret h
 | .keep ks a,Q,rg,σ,h=>SW.filt ks (vcA_sound cfg a Q _ σ h)
 | .stop a,Q,rg,σ,h=>h
theorem Stop.run{P:Program}[Glob P]{N:Nat}(cfg:Nat→Nat){a:AC}{Q:Exit→Regs→Store→Prop}{rg:Regs}{σ:Store}(h:vcA P N cfg a Q rg σ):Stop P N a Q rg σ:=vcA_sound cfg a Q rg σ h
theorem Stop.loop{P:Program}[Glob P]{N:Nat}{b:AC}{Q:Exit→Regs→Store→Prop}{rg:Regs}{σ:Store}(cfg:Nat→Nat)(I:Nat→Regs→Store→Prop)(n:Nat)(h0:I n rg σ)
  (h:∀ n rg σ,I n rg σ→vcA P N cfg b (thenQ (fun rg' σ'=>∃ n',n'<n∧I n' rg' σ') Q) rg σ):Stop P N (.loop b) Q rg σ:=
 SW_loop I n h0 fun n rg σ hi=>vcA_sound cfg b _ rg σ (h n rg σ hi)
theorem Stop.mono{P:Program}[Glob P]{N:Nat}{a:AC}{Q Q':Exit→Regs→Store→Prop}{rg:Regs}{σ:Store}(h:Stop P N a Q rg σ)(hq:∀ e rg σ,Q e rg σ→Q' e rg σ):Stop P N a Q' rg σ:=SW.mono h hq
theorem stop_congr{P:Program}[Glob P]{N:Nat}{a:AC}{Q:Exit→Regs→Store→Prop}{rg rg':Regs}{σ σ':Store}(h:rg=rg')(k:σ=σ'):Stop P N a Q rg σ=Stop P N a Q rg' σ':=by rw[h,k]
attribute [congr] stop_congr
attribute [congr] callP_congr
attribute [congr] qcall_congr
end Go.Sx
