/-
  The layer Sx, eighth part: every compiled operation is sound; regions; code; functions.
-/
import Derived.Test.YtekngilbecjkhaaGreatDoorSxComp
set_option linter.unusedVariables false
set_option linter.unusedSimpArgs false
set_option linter.unusedSectionVars false
namespace Go.Sx
open Go.RowKit
section
variable {P:Program}[Glob P]{M:Mem}{w0 w:World}{σ:Store}{K:AV→Store→Prop}{rg:Regs}{a:Act}{cfg:Nat→Nat}{d:Option Nat}{E:List PanicEntry→Store→Prop}
structure Goes(P:Program)[Glob P](M:Mem)(w0 w:World)(K:AV→Store→Prop)(E:List PanicEntry→Store→Prop)(o:Oper)(a:Act)(next:Act→World→Prop)(Q:Exit→Act→World→Prop):Prop where
 val:∀ (M':Mem) (x:AV) (σ':Store) (v:Value) (w':World),M.le M'→Inv P M' w0 σ' w'→R M' x v→K x σ'→next (a.put o.dst v) w'
 pan:∀ (M':Mem) (ch:List PanicEntry) (σ':Store) (w':World),M.le M'→Inv P M' w0 σ' w'→E ch σ'→Q (.panic ch) a w'
theorem wp_of_gives{o:Oper}{next:Act→World→Prop}{Q:Exit→Act→World→Prop}(hg:Goes P M w0 w K E o a next Q)(s:Sem Value)(he:execOp a.eval o=(do pure (.value (← s))))(h:Gives P M w0 K (s.run P w)):o.wp P a w next Q:=by
 obtain⟨v,w',M',x,σ',hr,hM,hI,hR,hk⟩:=h
 simp only[Oper.wp,he,Sem.run_bind,hr,Result.andThen_ok,Sem.run_pure,Oper.upon]
 exact hg.val M' x σ' v w' hM hI hR hk
theorem exact1_spec{M:Mem}:∀ (xs:List AV) (vs l:List Value),RL M xs vs→exact1 xs=some l→vs=l
 |[],vs,l,h,e=>by simp[exact1]at e;subst e;exact h.unnil
 |x::xs,vs,l,h,e=>by
  obtain⟨v,vs',rfl,hx,hxs⟩:=h.uncons
  unfold exact1 at e
  split at e
  ·simp_all
  ·rename_i y ys heq
   cases heq
   obtain⟨l',h1,rfl⟩:=Option.map_eq_some_iff.1 e
   rw[hx.of_v,exact1_spec xs vs' l' hxs h1]
  ·cases e
theorem exacts_spec{M:Mem}:∀ (xs:List AV) (vs l:List Value),RL M xs vs→exacts xs=some l→vs=l
 |[],vs,l,h,e=>by simp[exacts]at e;subst e;exact h.unnil
 |x::xs,vs,l,h,e=>by
  obtain⟨v,vs',rfl,hx,hxs⟩:=h.uncons
  unfold exacts at e
  split at e
  ·simp_all
  ·rename_i y ys heq
   cases heq
   obtain⟨l',h1,rfl⟩:=Option.map_eq_some_iff.1 e
   rw[hx.of_v,exacts_spec xs vs' l' hxs h1]
  ·rename_i tg b o ys heq
   cases heq
   obtain⟨l',h1,rfl⟩:=Option.map_eq_some_iff.1 e
   rw[hx.of_lp,exacts_spec xs vs' l' hxs h1]
  ·rename_i zs ys heq
   cases heq
   split at e
   ·rename_i cs hc
    obtain⟨l',h1,rfl⟩:=Option.map_eq_some_iff.1 e
    obtain⟨us,rfl,hus⟩:=hx.of_agg
    rw[exact1_spec zs us cs hus hc,exacts_spec xs vs' l' hxs h1]
   ·cases e
  ·cases e
theorem run_callFunc{f:FuncId}(h:callable P f=true)(args:Array Value)(w:World):(callFunc f args).run P w= .ok (.enter f args) w:=by
 unfold callable at h
 split at h
 ·rename_i fn hf
  simp only[Bool.and_eq_true,bne_iff_ne,ne_eq]at h
  obtain⟨c,hb⟩:=Option.isSome_iff_exists.1 h.2
  simp[callFunc,hf,h.1,hb]
 ·cases h
theorem upon_call{o:Oper}{next:Act→World→Prop}{Q:Exit→Act→World→Prop}{f:FuncId}{as:List AV}{cs:List Value}(hg:Goes P M w0 w K E o a next Q)(hI:Inv P M w0 σ w)(hl:RL M as cs)(h:CallP P f as σ K E)
  (he:(execOp a.eval o).run P w= .ok (.enter f cs.toArray) w):o.wp P a w next Q:=by
 obtain⟨Qs,hs,h1,h2⟩:=h
 simp only[Oper.wp,he,Oper.upon]
 refine(hs M w0 w cs hI hl).mono fun e w' ⟨M',r,σ',hM,hI',hr,hq⟩=> ?_
 cases r with
 |ret x=>
  cases e with
  |returned v=>exact hg.val M' x σ' v w' hM hI' hr (h1 x σ' hq)
  |_=>exact hr.elim
 |pan ch=>
  cases e with
  |panicked ch'=>have:ch'=ch:=hr;subst this;exact hg.pan M' _ σ' w' hM hI' (h2 _ σ' hq)
  |_=>exact hr.elim
theorem upon_op{o:Oper}{next:Act→World→Prop}{Q:Exit→Act→World→Prop}(hg:Goes P M w0 w K E o a next Q)(hI:Inv P M w0 σ w)(args:List Operand)(hl:RL M (evs rg args) (args.map a.eval)){ti:List TI}(hti:opInfo P o.op=ti)(h:OpS P o.op o.type ti args (evs rg args) σ K):o.wp P a w next Q:=by
 obtain⟨nx,w',M',x,v,σ',hr,hn,hM,hI',hx,hk⟩:=h hti M w0 w a.eval hI hl
 have hr:(execOp a.eval o).run P w= .ok nx w':=hr
 simp only[Oper.wp,hr,Oper.upon]
 cases nx with
 |value u=>have:v=u:=hn;subst this;exact hg.val M' x σ' v w' hM hI' hx hk
 |skip=>have:v=undef:=hn;subst this;exact hg.val M' x σ' undef w' hM hI' hx hk
 |_=>exact hn.elim
theorem compO_sound{o:Oper}{iop:IOp}(hc:compO P o=some iop)(h:vcO P cfg d rg σ K E iop)(hI:Inv P M w0 σ w)(hR:RegsOK M rg a){next:Act→World→Prop}{Q:Exit→Act→World→Prop}(hg:Goes P M w0 w K E o a next Q):
  o.wp P a w next Q:=by
 obtain⟨dst,op,ty,pos,after,guard⟩:=o
 unfold compO at hc
 cases op<;>simp only[reduceCtorEq]at hc
 case move x=>cases hc;exact wp_of_gives hg (pure (a.eval x)) rfl (s_mv hI hR h)
 case assign x=>cases hc;exact wp_of_gives hg (pure (a.eval x)) rfl (s_mv hI hR h)
 case pick c x y=>cases hc;exact wp_of_gives hg (do pure (if ← asBool (a.eval c)then a.eval x else a.eval y)) (by simp[execOp]) (s_pick hI hR h)
 case alloc e=>
  split at hc
  ·rename_i i hi
   obtain⟨z,hz,rfl⟩:=Option.map_eq_some_iff.1 hc
   exact wp_of_gives hg _ rfl (s_alloc hi hz hI h)
  ·cases hc
 case box e x=>cases hc;exact wp_of_gives hg _ rfl (s_box hI hR h)
 case build t parts=>
  split at hc
  ·rename_i fs i ht hi
   split at hc
   ·rename_i hall
    split at hc
    ·rename_i z ps hz hps
     cases hc
     exact wp_of_gives hg _ rfl (s_build ht hi hz hall hps hI hR h)
    ·cases hc
   ·cases hc
  ·cases hc
 case buildSlice t n parts=>
  split at hc
  ·rename_i e ht
   split at hc
   ·rename_i i hi
    split at hc
    ·rename_i z hz
     split at hc
     ·rename_i hp
      cases hc
      exact wp_of_gives hg _ rfl (s_mksl ht hi hz hp.1 hp.2.1 hI hR h)
     ·cases hc
    ·cases hc
   ·cases hc
  ·cases hc
 case load t x=>
  obtain⟨⟨g,n⟩,ht,rfl⟩:=Option.map_eq_some_iff.1 hc
  exact wp_of_gives hg _ rfl (s_load ht hI hR h)
 case store t x y=>
  obtain⟨⟨g,n⟩,ht,rfl⟩:=Option.map_eq_some_iff.1 hc
  obtain⟨w',σ',hr,hI',hk⟩:=s_store ht hI hR h
  simp only[Oper.wp,execOp,Sem.run_bind,hr,Result.andThen_ok,Sem.run_pure,Oper.upon]
  exact hg.val M _ σ' undef w' (Mem.le.refl _) hI' (.v _) hk
 case nilCheck x=>
  cases hc
  have hx:=hR.ev x
  simp only[vcO]at h
  split at h
  ·rename_i ad he
   rw[he]at hx
   exact wp_of_gives hg (pure (a.eval x)) (by simp[execOp,hx.of_v]) (Gives.same hI hx h rfl)
  ·rename_i tg b o he
   rw[he]at hx
   exact wp_of_gives hg (pure (a.eval x)) (by simp[execOp,hx.of_lp]) (Gives.same hI hx h rfl)
  ·rename_i l he
   rw[he]at hx
   obtain⟨b,off,cs,hv,_⟩:=hx.of_pc
   exact wp_of_gives hg (pure (a.eval x)) (by simp[execOp,hv]) (Gives.same hI hx h rfl)
  ·rename_i f b c he
   rw[he]at hx
   exact wp_of_gives hg (pure (a.eval x)) (by simp[execOp,hx.of_v]) (Gives.same hI hx h rfl)
  ·rename_i f b c he
   rw[he]at hx
   obtain⟨va,vc,hv,_⟩:=hx.of_cl
   exact wp_of_gives hg (pure (a.eval x)) (by simp[execOp,hv]) (Gives.same hI hx h rfl)
  ·exact h.elim
 case binOp op t x y ty2=>
  have hcomp:∀ neg,compEq P neg t x y=some iop→Gives P M w0 K ((do eqGuard (if neg then .neq else .eql) t x y (a.eval x) (a.eval y);binOp (if neg then .neq else .eql) t (a.eval x) (a.eval y):Sem Value).run P w):=by
   intro neg hc
   unfold compEq at hc
   split at hc
   ·cases hc;have:=s_bin (t:=t) hI hR h;cases neg<;>exact this
   ·cases hc;have:=s_bin (t:=t) hI hR h;cases neg<;>exact this
   ·rename_i fs ht
    split at hc
    ·rename_i hp
     obtain⟨ks,hk,rfl⟩:=Option.map_eq_some_iff.1 hc
     exact s_eqs ht hp.1 hp.2 hk hI hR h
    ·cases hc
   ·rename_i ht;cases hc;exact s_eqb (k:= .bool) ht hI hR h
   ·rename_i e ht;cases hc;exact s_eqb (k:= .slice) ⟨_,ht⟩ hI hR h
   ·rename_i e ht;cases hc;exact s_eqb (k:= .map) ⟨_,_,ht⟩ hI hR h
   ·rename_i e ht;cases hc;exact s_eqb (k:= .func) ⟨_,_,_,ht⟩ hI hR h
   ·rename_i e ht;cases hc;exact s_eqb (k:= .ptr) ⟨_,ht⟩ hI hR h
   ·cases hc
  cases op
  case eql=>exact wp_of_gives hg _ rfl (hcomp false hc)
  case neq=>exact wp_of_gives hg _ rfl (hcomp true hc)
  all_goals(cases hc;exact wp_of_gives hg _ rfl (s_bin (t:=t) hI hR h))
 case unOp op t x=>cases hc;exact wp_of_gives hg _ rfl (s_un hI hR h)
 case convert src dst' x=>
  split at hc
  ·rename_i k k' hs hd
   cases hc
   exact wp_of_gives hg _ rfl (s_cvint hs hd hI hR h)
  ·rename_i hs hd
   cases hc
   have hx:=hR.ev x
   refine wp_of_gives hg _ rfl ?_
   simp only[vcO]at h
   split at h
   ·rename_i s he
    rw[he]at hx
    rw[hx.of_v]
    exact Gives.same hI (.v _) h (by simp[convert,run_under hs,run_under hd])
   ·exact h.elim
  ·cases hc;exact upon_op hg hI [x] (evs_RL hR _) rfl h
 case makeInterface t x=>
  split at hc
  ·cases hc
  ·rename_i dsc hne ht
   cases hc
   refine wp_of_gives hg (Instr.makeInterface t (a.eval x)) rfl (Gives.same hI (.ifc t _ _ (hR.ev x)) h ?_)
   cases dsc<;>first|exact(hne _ rfl).elim|simp[Instr.makeInterface,run_under ht]
  ·cases hc
 case makeFunc fn first captured=>
  cases hc
  simp only[vcO]at h
  split at h
  ·rename_i l1 l2 h1 h2
   have e1:=exacts_spec _ _ _ (evs_RL hR first.toList) h1
   have e2:=exacts_spec _ _ _ (evs_RL hR captured.toList) h2
   refine wp_of_gives hg (Instr.makeFunc fn (first.map a.eval) (captured.map a.eval)) rfl (Gives.same hI (.v _) h ?_)
   have e3:first.map a.eval=l1.toArray:=by apply Array.ext';rw[← e1];simp
   have e4:captured.map a.eval=l2.toArray:=by apply Array.ext';rw[← e2];simp
   simp[Instr.makeFunc,e3,e4]
  ·split at h
   ·rename_i f
    refine wp_of_gives hg (Instr.makeFunc (.func f) (first.map a.eval) (captured.map a.eval)) rfl (Gives.same hI (R.mk_cl (evs_RL hR first.toList) (evs_RL hR captured.toList)) h ?_)
    simp only[Instr.makeFunc,Sem.run_pure]
    congr 2<;>(apply Array.ext';simp)
   ·exact h.elim
 case slice t x lo hi mx=>
  cases mx with
  |none=>
   simp only at hc
   split at hc
   ·rename_i e ht
    split at hc
    ·rename_i i hi'
     cases hc
     exact wp_of_gives hg _ rfl (s_slice ht hi' hI hR h)
    ·cases hc
   ·cases hc;exact upon_op hg hI (x::(lo.toList++hi.toList)) (evs_RL hR _) rfl h
  |some m=>simp at hc
 case fieldAddr t x i=>
  split at hc
  ·rename_i fs ht
   split at hc
   ·rename_i f hf
    split at hc
    ·rename_i k hk
     split at hc
     ·rename_i h0
      cases hc
      exact wp_of_gives hg _ rfl (s_faddr ht hf hk h0 hI hR h)
     ·cases hc
    ·cases hc
   ·cases hc
  ·cases hc
 case field t x i=>
  split at hc
  ·rename_i fs ht
   split at hc
   ·rename_i f hf
    obtain⟨⟨g,n⟩,hgn,rfl⟩:=Option.map_eq_some_iff.1 hc
    exact wp_of_gives hg _ rfl (s_field ht hf hgn hI hR h)
   ·cases hc
  ·cases hc
 case indexAddr t x i=>
  split at hc
  ·rename_i e ht
   split at hc
   ·rename_i k hk;cases hc;exact wp_of_gives hg _ rfl (s_iaddr ht hk hI hR h)
   ·cases hc
  ·rename_i n e ht
   split at hc
   ·rename_i k hk;cases hc;exact wp_of_gives hg _ rfl (s_iaddrA ht hk hI hR h)
   ·cases hc
  ·cases hc
 case index t x i=>
  split at hc
  ·rename_i ht;cases hc;exact wp_of_gives hg _ rfl (s_idxs ht hI hR h)
  ·cases hc;exact upon_op hg hI [x,i] (evs_RL hR _) rfl h
 case makeMap t r=>
  cases r with
  |none=>cases hc;exact upon_op hg hI [] (evs_RL hR _) rfl h
  |some r=>cases hc
 case insert t m k x=>cases hc;exact upon_op hg hI [m,k,x] (evs_RL hR _) rfl h
 case mapUpdate t m k x=>cases hc;exact upon_op hg hI [m,k,x] (evs_RL hR _) rfl h
 case mapEntry t m k=>cases hc;exact upon_op hg hI [m,k] (evs_RL hR _) rfl h
 case entryStore t m k x=>cases hc;exact upon_op hg hI [m,k,x] (evs_RL hR _) rfl h
 case lookup t m k ok=>cases hc;exact upon_op hg hI [m,k] (evs_RL hR _) rfl h
 case makeSlice t n c=>cases hc;exact upon_op hg hI [n,c] (evs_RL hR _) rfl h
 case extract x i=>cases hc;exact wp_of_gives hg _ rfl (s_extract hI hR h)
 case call c=>
  split at hc
  case h_2=>
   split at hc
   ·cases hc;exact upon_op hg hI c.args.toList (evs_RL hR _) rfl h
   ·cases hc
  rename_i iop' hc'
  cases hc
  replace hc:=hc'
  obtain⟨callee,args,argTypes⟩:=c
  unfold compCall at hc
  split at hc
  ·rename_i f hcal
   simp only at hcal;subst hcal
   split at hc
   ·rename_i hcl
    cases hc
    refine upon_call hg hI (evs_RL hR args.toList) h ?_
    have e:(args.toList.map a.eval).toArray=args.map a.eval:=by apply Array.ext';simp
    simp only[e]
    simp[execOp,resolve,Deferred.ofValue,invoke,Act.eval,run_callFunc hcl]
   ·cases hc
  ·rename_i f hnf hcal
   simp only at hcal;subst hcal
   cases hc
   simp only[vcO]at h
   split at h
   ·rename_i g b c he
    obtain⟨hcl,h⟩:=h
    have hf:=hR.ev f
    rw[he]at hf
    refine upon_call hg hI (RL.append (RL.append (RL.exact b.toList) (evs_RL hR args.toList)) (RL.exact c.toList)) h ?_
    simp[execOp,resolve,Deferred.ofValue,invoke,hf.of_v,run_callFunc hcl]
   ·rename_i g b c he
    obtain⟨hcl,h⟩:=h
    have hf:=hR.ev f
    rw[he]at hf
    obtain⟨va,vc,hv,ha,hc⟩:=hf.of_cl
    refine upon_call hg hI (RL.append (RL.append ha (evs_RL hR args.toList)) hc) h ?_
    simp[execOp,resolve,Deferred.ofValue,invoke,hv,run_callFunc hcl]
   ·exact h.elim
  ·rename_i hcal
   simp only at hcal;subst hcal
   simp only at hc
   split at hc
   ·rename_i x t hx ht'
    have e1:args= #[x]:=by apply Array.ext';simpa using hx
    have e2:argTypes= #[t]:=by apply Array.ext';simpa using ht'
    subst e1 e2
    split at hc
    ·rename_i ht;cases hc;exact wp_of_gives hg (Builtin.len_ #[t] ty #[a.eval x]) (by simp[execOp,resolve,invoke,builtin]) (s_lens ht hI hR h)
    ·rename_i e ht;cases hc;exact wp_of_gives hg (Builtin.len_ #[t] ty #[a.eval x]) (by simp[execOp,resolve,invoke,builtin]) (s_len ht hI hR h)
    ·cases hc
   ·cases hc
  ·rename_i hcal
   simp only at hcal;subst hcal
   simp only at hc
   split at hc
   ·rename_i x y t u hx ht'
    have e1:args= #[x,y]:=by apply Array.ext';simpa using hx
    have e2:argTypes= #[t,u]:=by apply Array.ext';simpa using ht'
    subst e1 e2
    split at hc
    ·rename_i e e' ht hu
     split at hc
     ·rename_i i hi
      split at hc
      ·rename_i z hz
       split at hc
       ·rename_i hp
        cases hc
        exact wp_of_gives hg (Builtin.append_ #[t,u] ty #[a.eval x,a.eval y]) (by simp[execOp,resolve,invoke,builtin]) (s_append ht (.inl ⟨_,hu⟩) hi hz hp.1 hp.2.1 hp.2.2 hI hR h)
       ·cases hc
      ·cases hc
     ·cases hc
    ·rename_i e ht hu
     split at hc
     ·rename_i i hi
      split at hc
      ·rename_i z hz
       split at hc
       ·rename_i hp
        cases hc
        exact wp_of_gives hg (Builtin.append_ #[t,u] ty #[a.eval x,a.eval y]) (by simp[execOp,resolve,invoke,builtin]) (s_append ht (.inr hu) hi hz hp.1 hp.2.1 hp.2.2 hI hR h)
       ·cases hc
      ·cases hc
     ·cases hc
    ·cases hc
   ·cases hc
  ·rename_i hcal
   simp only at hcal;subst hcal
   simp only at hc
   split at hc
   ·rename_i x y hx
    have e1:args= #[x,y]:=by apply Array.ext';simpa using hx
    subst e1
    cases hc
    exact wp_of_gives hg (Builtin.max_ argTypes ty #[a.eval x,a.eval y]) (by simp[execOp,resolve,invoke,builtin]) (s_max hI hR h)
   ·cases hc
  ·rename_i hcal
   simp only at hcal;subst hcal
   simp only at hc
   split at hc
   ·rename_i x y hx
    have e1:args= #[x,y]:=by apply Array.ext';simpa using hx
    subst e1
    cases hc
    exact wp_of_gives hg (Builtin.min_ argTypes ty #[a.eval x,a.eval y]) (by simp[execOp,resolve,invoke,builtin]) (s_min hI hR h)
   ·cases hc
  ·cases hc
end
end Go.Sx
