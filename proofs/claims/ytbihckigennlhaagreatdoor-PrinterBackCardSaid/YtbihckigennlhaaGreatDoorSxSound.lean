/-
  The layer Sx, eighth part: every compiled operation is sound; regions; code; functions.
-/
import Derived.Test.YtbihckigennlhaaGreatDoorSxComp5
import Derived.Orders
set_option linter.unusedVariables false
set_option linter.unusedSimpArgs false
set_option linter.unusedSectionVars false
namespace Go.Sx
open Go.RowKit
section
variable {P:Program}[Glob P]{M:Mem}{w0:Base}{w:World}{σ:Store}{K:AV→Store→Prop}{rg:Regs}{a:Act}{cfg:Nat→Nat}{d:Option Nat}{E:List PanicEntry→Store→Prop}
structure Goes(P:Program)[Glob P](M:Mem)(w0:Base)(w:World)(K:AV→Store→Prop)(E:List PanicEntry→Store→Prop)(o:Oper)(a:Act)(next:Act→World→Prop)(Q:Exit→Act→World→Prop):Prop where
 val:∀ (M':Mem) (x:AV) (σ':Store) (v:Value) (w':World),M.le M'→Inv P M' w0 σ' w'→R M' x v→K x σ'→next (a.put o.dst v) w'
 pan:∀ (M':Mem) (ch:List PanicEntry) (σ':Store) (w':World),M.le M'→Inv P M' w0 σ' w'→E ch σ'→Q (.panic ch) a w'
theorem wp_of_gives{o:Oper}{next:Act→World→Prop}{Q:Exit→Act→World→Prop}(hg:Goes P M w0 w K E o a next Q)(s:Sem Value)(he:execOp a.eval o=(do pure (.value (← s))))(h:Gives P M w0 K (s.run P w)):o.wp P a w next Q:=by
 obtain⟨v,w',M',x,σ',hr,hM,hI,hR,hk⟩:=h
 simp only[Oper.wp,he,Sem.run_bind,hr,Result.andThen_ok,Sem.run_pure,Oper.upon]
 exact hg.val M' x σ' v w' hM hI hR hk
theorem exact1_spec{M:Mem}:∀ (xs:List AV) (vs l:List Value),RL M xs vs→exact1 xs=some l→vs=l
 |[],vs,l,h,e=>by simp[exact1]at e;subst e;exact h.unnil
 |x::xs,vs,l,h,e=>by
  obtain⟨v,vs',rfl,hx,hxs⟩:=h.uncons
  unfold exact1 at e
  split at e
  ·simp_all
  ·rename_i y ys heq
   cases heq
   obtain⟨l',h1,rfl⟩:=Option.map_eq_some_iff.1 e
   rw[hx.of_v,exact1_spec xs vs' l' hxs h1]
  ·cases e
theorem exacts_spec{M:Mem}:∀ (xs:List AV) (vs l:List Value),RL M xs vs→exacts xs=some l→vs=l
 |[],vs,l,h,e=>by simp[exacts]at e;subst e;exact h.unnil
 |x::xs,vs,l,h,e=>by
  obtain⟨v,vs',rfl,hx,hxs⟩:=h.uncons
  unfold exacts at e
  split at e
  ·simp_all
  ·rename_i y ys heq
   cases heq
   obtain⟨l',h1,rfl⟩:=Option.map_eq_some_iff.1 e
   rw[hx.of_v,exacts_spec xs vs' l' hxs h1]
  ·rename_i tg b o ys heq
   cases heq
   obtain⟨l',h1,rfl⟩:=Option.map_eq_some_iff.1 e
   rw[hx.of_lp,exacts_spec xs vs' l' hxs h1]
  ·rename_i zs ys heq
   cases heq
   split at e
   ·rename_i cs hc
    obtain⟨l',h1,rfl⟩:=Option.map_eq_some_iff.1 e
    obtain⟨us,rfl,hus⟩:=hx.of_agg
    rw[exact1_spec zs us cs hus hc,exacts_spec xs vs' l' hxs h1]
   ·cases e
  ·cases e
theorem run_callFunc{f:FuncId}(h:callable P f=true)(args:Array Value)(w:World):(callFunc f args).run P w= .ok (.enter f args) w:=by
 unfold callable at h
 split at h
 ·rename_i fn hf
  simp only[Bool.and_eq_true,bne_iff_ne,ne_eq]at h
  obtain⟨c,hb⟩:=Option.isSome_iff_exists.1 h.2
  simp[callFunc,hf,h.1,hb]
 ·cases h
theorem upon_call{o:Oper}{next:Act→World→Prop}{Q:Exit→Act→World→Prop}{f:FuncId}{as:List AV}{cs:List Value}(hg:Goes P M w0 w K E o a next Q)(hI:Inv P M w0 σ w)(hl:RL M as cs)(h:CallP P f as σ K E)
  (he:(execOp a.eval o).run P w= .ok (.enter f cs.toArray) w):o.wp P a w next Q:=by
 obtain⟨Qs,hs,h1,h2⟩:=h
 simp only[Oper.wp,he,Oper.upon]
 refine(hs M w0 w cs hI hl).mono fun e w' ⟨M',r,σ',hM,hI',hr,hq⟩=> ?_
 cases r with
 |ret x=>
  cases e with
  |returned v=>exact hg.val M' x σ' v w' hM hI' hr (h1 x σ' hq)
  |_=>exact hr.elim
 |pan ch=>
  cases e with
  |panicked ch'=>have:ch'=ch:=hr;subst this;exact hg.pan M' _ σ' w' hM hI' (h2 _ σ' hq)
  |_=>exact hr.elim
theorem upon_op{o:Oper}{next:Act→World→Prop}{Q:Exit→Act→World→Prop}(hg:Goes P M w0 w K E o a next Q)(hI:Inv P M w0 σ w)(args:List Operand)(hl:RL M (evs rg args) (args.map a.eval)){ti:List TI}(hti:opInfo P o.op=ti)(h:OpS P o.op o.type ti args (evs rg args) σ K):o.wp P a w next Q:=by
 obtain⟨nx,w',M',x,v,σ',hr,hn,hM,hI',hx,hk⟩:=h hti M w0 w a.eval hI hl
 have hr:(execOp a.eval o).run P w= .ok nx w':=hr
 simp only[Oper.wp,hr,Oper.upon]
 cases nx with
 |value u=>have:v=u:=hn;subst this;exact hg.val M' x σ' v w' hM hI' hx hk
 |skip=>have:v=undef:=hn;subst this;exact hg.val M' x σ' undef w' hM hI' hx hk
 |_=>exact hn.elim
theorem compO_sound{o:Oper}{iop:IOp}(hc:compO P o=some iop)(h:vcO P cfg d rg σ K E iop)(hI:Inv P M w0 σ w)(hR:RegsOK M rg a){next:Act→World→Prop}{Q:Exit→Act→World→Prop}(hg:Goes P M w0 w K E o a next Q):
  o.wp P a w next Q:=by
 obtain⟨dst,op,ty,pos,after,guard⟩:=o
 unfold compO at hc
 cases op<;>simp only[reduceCtorEq]at hc
 case move x=>cases hc;exact wp_of_gives hg (pure (a.eval x)) rfl (s_mv hI hR h)
 case assign x=>cases hc;exact wp_of_gives hg (pure (a.eval x)) rfl (s_mv hI hR h)
 case pick c x y=>cases hc;exact wp_of_gives hg (do pure (if ← asBool (a.eval c)then a.eval x else a.eval y)) (by simp[execOp]) (s_pick hI hR h)
 case alloc e=>
  split at hc
  ·rename_i i hi
   obtain⟨z,hz,rfl⟩:=Option.map_eq_some_iff.1 hc
   exact wp_of_gives hg _ rfl (s_alloc hi hz hI h)
  ·cases hc
 case box e x=>cases hc;exact wp_of_gives hg _ rfl (s_box hI hR h)
 case build t parts=>
  split at hc
  ·rename_i fs i ht hi
   split at hc
   ·rename_i hall
    split at hc
    ·rename_i z ps hz hps
     cases hc
     exact wp_of_gives hg _ rfl (s_build ht hi hz hall hps hI hR h)
    ·cases hc
   ·cases hc
  ·cases hc
 case buildSlice t n parts=>
  split at hc
  ·rename_i e ht
   split at hc
   ·rename_i i hi
    split at hc
    ·rename_i z hz
     split at hc
     ·rename_i hp
      cases hc
      exact wp_of_gives hg _ rfl (s_mksl ht hi hz hp.1 hp.2.1 hI hR h)
     ·cases hc
    ·cases hc
   ·cases hc
  ·cases hc
 case load t x=>
  obtain⟨⟨g,n⟩,ht,rfl⟩:=Option.map_eq_some_iff.1 hc
  exact wp_of_gives hg _ rfl (s_load ht hI hR h)
 case store t x y=>
  obtain⟨⟨g,n⟩,ht,rfl⟩:=Option.map_eq_some_iff.1 hc
  obtain⟨w',σ',hr,hI',hk⟩:=s_store ht hI hR h
  simp only[Oper.wp,execOp,Sem.run_bind,hr,Result.andThen_ok,Sem.run_pure,Oper.upon]
  exact hg.val M _ σ' undef w' (Mem.le.refl _) hI' (.v _) hk
 case nilCheck x=>
  cases hc
  have hx:=hR.ev x
  simp only[vcO]at h
  split at h
  ·rename_i ad he
   rw[he]at hx
   exact wp_of_gives hg (pure (a.eval x)) (by simp[execOp,hx.of_v]) (Gives.same hI hx h rfl)
  ·rename_i tg b o he
   rw[he]at hx
   exact wp_of_gives hg (pure (a.eval x)) (by simp[execOp,hx.of_lp]) (Gives.same hI hx h rfl)
  ·rename_i l he
   rw[he]at hx
   obtain⟨b,off,cs,hv,_⟩:=hx.of_pc
   exact wp_of_gives hg (pure (a.eval x)) (by simp[execOp,hv]) (Gives.same hI hx h rfl)
  ·rename_i f b c he
   rw[he]at hx
   exact wp_of_gives hg (pure (a.eval x)) (by simp[execOp,hx.of_v]) (Gives.same hI hx h rfl)
  ·rename_i f b c he
   rw[he]at hx
   obtain⟨va,vc,hv,_⟩:=hx.of_cl
   exact wp_of_gives hg (pure (a.eval x)) (by simp[execOp,hv]) (Gives.same hI hx h rfl)
  ·exact h.elim
 case binOp op t x y ty2=>
  have hcomp:∀ neg,compEq P neg t x y=some iop→Gives P M w0 K ((do eqGuard (if neg then .neq else .eql) t x y (a.eval x) (a.eval y);binOp (if neg then .neq else .eql) t (a.eval x) (a.eval y):Sem Value).run P w):=by
   intro neg hc
   unfold compEq at hc
   split at hc
   ·cases hc;have:=s_bin (t:=t) hI hR h;cases neg<;>exact this
   ·cases hc;have:=s_bin (t:=t) hI hR h;cases neg<;>exact this
   ·rename_i fs ht
    split at hc
    ·rename_i hp
     obtain⟨ks,hk,rfl⟩:=Option.map_eq_some_iff.1 hc
     exact s_eqs ht hp.1 hp.2 hk hI hR h
    ·cases hc
   ·rename_i ht;cases hc;exact s_eqb (k:= .bool) ht hI hR h
   ·rename_i e ht;cases hc;exact s_eqb (k:= .slice) ⟨_,ht⟩ hI hR h
   ·rename_i e ht;cases hc;exact s_eqb (k:= .map) ⟨_,_,ht⟩ hI hR h
   ·rename_i e ht;cases hc;exact s_eqb (k:= .func) ⟨_,_,_,ht⟩ hI hR h
   ·rename_i e ht;cases hc;exact s_eqb (k:= .ptr) ⟨_,ht⟩ hI hR h
   ·cases hc
  cases op
  case eql=>
   simp only at hc
   split at hc
   ·rename_i i he;cases hc;exact wp_of_gives hg _ rfl (hcomp false he)
   ·cases hc;exact upon_op hg hI [x,y] (evs_RL hR _) rfl h
  case neq=>
   simp only at hc
   split at hc
   ·rename_i i he;cases hc;exact wp_of_gives hg _ rfl (hcomp true he)
   ·cases hc;exact upon_op hg hI [x,y] (evs_RL hR _) rfl h
  all_goals(cases hc;exact wp_of_gives hg _ rfl (s_bin (t:=t) hI hR h))
 case unOp op t x=>cases hc;exact wp_of_gives hg _ rfl (s_un hI hR h)
 case convert src dst' x=>
  split at hc
  ·rename_i k k' hs hd
   cases hc
   exact wp_of_gives hg _ rfl (s_cvint hs hd hI hR h)
  ·rename_i hs hd
   cases hc
   have hx:=hR.ev x
   refine wp_of_gives hg _ rfl ?_
   simp only[vcO]at h
   split at h
   ·rename_i s he
    rw[he]at hx
    rw[hx.of_v]
    exact Gives.same hI (.v _) h (by simp[convert,run_under hs,run_under hd])
   ·exact h.elim
  ·cases hc;exact upon_op hg hI [x] (evs_RL hR _) rfl h
 case makeInterface t x=>
  split at hc
  ·cases hc
  ·rename_i dsc hne ht
   cases hc
   refine wp_of_gives hg (Instr.makeInterface t (a.eval x)) rfl (Gives.same hI (.ifc t _ _ (hR.ev x)) h ?_)
   cases dsc<;>first|exact(hne _ rfl).elim|simp[Instr.makeInterface,run_under ht]
  ·cases hc
 case makeFunc fn first captured=>
  cases hc
  simp only[vcO]at h
  split at h
  ·rename_i l1 l2 h1 h2
   have e1:=exacts_spec _ _ _ (evs_RL hR first.toList) h1
   have e2:=exacts_spec _ _ _ (evs_RL hR captured.toList) h2
   refine wp_of_gives hg (Instr.makeFunc fn (first.map a.eval) (captured.map a.eval)) rfl (Gives.same hI (.v _) h ?_)
   have e3:first.map a.eval=l1.toArray:=by apply Array.ext';rw[← e1];simp
   have e4:captured.map a.eval=l2.toArray:=by apply Array.ext';rw[← e2];simp
   simp[Instr.makeFunc,e3,e4]
  ·split at h
   ·rename_i f
    refine wp_of_gives hg (Instr.makeFunc (.func f) (first.map a.eval) (captured.map a.eval)) rfl (Gives.same hI (R.mk_cl (evs_RL hR first.toList) (evs_RL hR captured.toList)) h ?_)
    simp only[Instr.makeFunc,Sem.run_pure]
    congr 2<;>(apply Array.ext';simp)
   ·exact h.elim
 case slice t x lo hi mx=>
  cases mx with
  |none=>
   simp only at hc
   split at hc
   ·rename_i e ht
    split at hc
    ·rename_i i hi'
     cases hc
     exact wp_of_gives hg _ rfl (s_slice ht hi' hI hR h)
    ·cases hc
   ·cases hc;exact upon_op hg hI (x::(lo.toList++hi.toList)) (evs_RL hR _) rfl h
  |some m=>simp at hc
 case fieldAddr t x i=>
  split at hc
  ·rename_i fs ht
   split at hc
   ·rename_i f hf
    split at hc
    ·rename_i k hk
     split at hc
     ·rename_i h0
      cases hc
      exact wp_of_gives hg _ rfl (s_faddr ht hf hk h0 hI hR h)
     ·cases hc
    ·cases hc
   ·cases hc
  ·cases hc
 case field t x i=>
  split at hc
  ·rename_i fs ht
   split at hc
   ·rename_i f hf
    obtain⟨⟨g,n⟩,hgn,rfl⟩:=Option.map_eq_some_iff.1 hc
    exact wp_of_gives hg _ rfl (s_field ht hf hgn hI hR h)
   ·cases hc
  ·cases hc
 case indexAddr t x i=>
  split at hc
  ·rename_i e ht
   split at hc
   ·rename_i k hk;cases hc;exact wp_of_gives hg _ rfl (s_iaddr ht hk hI hR h)
   ·cases hc
  ·rename_i n e ht
   split at hc
   ·rename_i k hk;cases hc;exact wp_of_gives hg _ rfl (s_iaddrA ht hk hI hR h)
   ·cases hc
  ·cases hc
 case index t x i=>
  split at hc
  ·rename_i ht;cases hc;exact wp_of_gives hg _ rfl (s_idxs ht hI hR h)
  ·cases hc;exact upon_op hg hI [x,i] (evs_RL hR _) rfl h
 case makeMap t r=>
  cases r with
  |none=>cases hc;exact upon_op hg hI [] (evs_RL hR _) rfl h
  |some r=>cases hc
 case insert t m k x=>cases hc;exact upon_op hg hI [m,k,x] (evs_RL hR _) rfl h
 case mapUpdate t m k x=>cases hc;exact upon_op hg hI [m,k,x] (evs_RL hR _) rfl h
 case mapEntry t m k=>cases hc;exact upon_op hg hI [m,k] (evs_RL hR _) rfl h
 case entryStore t m k x=>cases hc;exact upon_op hg hI [m,k,x] (evs_RL hR _) rfl h
 case lookup t m k ok=>cases hc;exact upon_op hg hI [m,k] (evs_RL hR _) rfl h
 case makeSlice t n c=>cases hc;exact upon_op hg hI [n,c] (evs_RL hR _) rfl h
 case extract x i=>cases hc;exact wp_of_gives hg _ rfl (s_extract hI hR h)
 case panic x=>
  cases hc
  simp only[vcO]at h
  split at h
  ·rename_i t y e
   split at h
   ·rename_i v e2
    have hx:=RegsOK.ev hR x
    rw[e]at hx
    obtain⟨u,hu,hy⟩:=hx.of_ifc
    have h2:[u]=[v]:=exacts_spec [y] [u] [v] (RL.cons hy RL.nil) e2
    have h3:u=v:=by simpa using h2
    subst h3
    have hr:(execOp a.eval ⟨dst,.panic x,ty,pos,after,guard⟩).run P w= .halt (.panic (.iface t u)) w:=by
     simp[execOp,hu,Instr.panic,Sem.run_bind]
    simp only[Oper.wp,hr,Oper.upon]
    exact hg.pan M _ σ w (Mem.le.refl _) hI h
   ·exact h.elim
  ·exact h.elim
 case call c=>
  split at hc
  case h_2=>
   split at hc
   ·cases hc;exact upon_op hg hI c.args.toList (evs_RL hR _) rfl h
   ·cases hc
  rename_i iop' hc'
  cases hc
  replace hc:=hc'
  obtain⟨callee,args,argTypes⟩:=c
  unfold compCall at hc
  split at hc
  ·rename_i f hcal
   simp only at hcal;subst hcal
   split at hc
   ·rename_i hcl
    cases hc
    refine upon_call hg hI (evs_RL hR args.toList) h ?_
    have e:(args.toList.map a.eval).toArray=args.map a.eval:=by apply Array.ext';simp
    simp only[e]
    simp[execOp,resolve,Deferred.ofValue,invoke,Act.eval,run_callFunc hcl]
   ·cases hc
  ·rename_i f hnf hcal
   simp only at hcal;subst hcal
   cases hc
   simp only[vcO]at h
   split at h
   ·rename_i g b c he
    obtain⟨hcl,h⟩:=h
    have hf:=hR.ev f
    rw[he]at hf
    refine upon_call hg hI (RL.append (RL.append (RL.exact b.toList) (evs_RL hR args.toList)) (RL.exact c.toList)) h ?_
    simp[execOp,resolve,Deferred.ofValue,invoke,hf.of_v,run_callFunc hcl]
   ·rename_i g b c he
    obtain⟨hcl,h⟩:=h
    have hf:=hR.ev f
    rw[he]at hf
    obtain⟨va,vc,hv,ha,hc⟩:=hf.of_cl
    refine upon_call hg hI (RL.append (RL.append ha (evs_RL hR args.toList)) hc) h ?_
    simp[execOp,resolve,Deferred.ofValue,invoke,hv,run_callFunc hcl]
   ·exact h.elim
  ·rename_i hcal
   simp only at hcal;subst hcal
   simp only at hc
   split at hc
   ·rename_i x t hx ht'
    have e1:args= #[x]:=by apply Array.ext';simpa using hx
    have e2:argTypes= #[t]:=by apply Array.ext';simpa using ht'
    subst e1 e2
    split at hc
    ·rename_i ht;cases hc;exact wp_of_gives hg (Builtin.len_ #[t] ty #[a.eval x]) (by simp[execOp,resolve,invoke,builtin]) (s_lens ht hI hR h)
    ·rename_i e ht;cases hc;exact wp_of_gives hg (Builtin.len_ #[t] ty #[a.eval x]) (by simp[execOp,resolve,invoke,builtin]) (s_len ht hI hR h)
    ·cases hc
   ·cases hc
  ·rename_i hcal
   simp only at hcal;subst hcal
   simp only at hc
   split at hc
   ·rename_i x y t u hx ht'
    have e1:args= #[x,y]:=by apply Array.ext';simpa using hx
    have e2:argTypes= #[t,u]:=by apply Array.ext';simpa using ht'
    subst e1 e2
    split at hc
    ·rename_i e e' ht hu
     split at hc
     ·rename_i i hi
      split at hc
      ·rename_i z hz
       split at hc
       ·rename_i hp
        cases hc
        exact wp_of_gives hg (Builtin.append_ #[t,u] ty #[a.eval x,a.eval y]) (by simp[execOp,resolve,invoke,builtin]) (s_append ht (.inl ⟨_,hu⟩) hi hz hp.1 hp.2.1 hp.2.2 hI hR h)
       ·cases hc
      ·cases hc
     ·cases hc
    ·rename_i e ht hu
     split at hc
     ·rename_i i hi
      split at hc
      ·rename_i z hz
       split at hc
       ·rename_i hp
        cases hc
        exact wp_of_gives hg (Builtin.append_ #[t,u] ty #[a.eval x,a.eval y]) (by simp[execOp,resolve,invoke,builtin]) (s_append ht (.inr hu) hi hz hp.1 hp.2.1 hp.2.2 hI hR h)
       ·cases hc
      ·cases hc
     ·cases hc
    ·cases hc
   ·cases hc
  ·rename_i hcal
   simp only at hcal;subst hcal
   simp only at hc
   split at hc
   ·rename_i x y hx
    have e1:args= #[x,y]:=by apply Array.ext';simpa using hx
    subst e1
    cases hc
    exact wp_of_gives hg (Builtin.max_ argTypes ty #[a.eval x,a.eval y]) (by simp[execOp,resolve,invoke,builtin]) (s_max hI hR h)
   ·cases hc
  ·rename_i hcal
   simp only at hcal;subst hcal
   simp only at hc
   split at hc
   ·rename_i x y hx
    have e1:args= #[x,y]:=by apply Array.ext';simpa using hx
    subst e1
    cases hc
    exact wp_of_gives hg (Builtin.min_ argTypes ty #[a.eval x,a.eval y]) (by simp[execOp,resolve,invoke,builtin]) (s_min hI hR h)
   ·cases hc
  ·cases hc
end
end Go.Sx
namespace Go.Sx
def waits(ops:Array Oper)(i j:Nat):Bool:=((ops[i]?).map fun o=>o.after.any fun e=>Region.binds .any e && Nat.beq e.on j).getD false
def fwdOK(ops:Array Oper):Bool:=(List.range ops.size).all fun i=>((ops[i]?).map fun o=>o.after.all fun e=> !Region.binds .any e || Nat.blt e.on i).getD false
def lastOK(ops:Array Oper)(k:Nat):Bool:=Nat.ble k ops.size && (List.range ops.size).all fun i=>Nat.blt i k || (List.range i).all fun j=>waits ops i j
def readyL(ops:Array Oper)(listed:Nat→Bool):List Nat:=
 (List.range ops.size).filter fun i=> !listed i && ((ops[i]?).map (·.after.all fun e=> !Region.binds .any e || listed e.on)).getD false
def pickL(ops:Array Oper):Nat→Nat→(Nat→Bool)→List Nat
 |0,_,_=>[]
 |fuel+1,t,listed=>match(readyL ops listed)[t % (readyL ops listed).length]? with
  |some i=>i::pickL ops fuel (t / (readyL ops listed).length) fun j=>listed j || Nat.beq i j
  |none=>[]
theorem go_pickL(ops:Array Oper):∀ (fuel t:Nat) (listed:Array Bool) (acc:List Nat) (p:Nat→Bool),listed.size=ops.size→(∀ i,i<ops.size→listed.getD i true=p i∧listed.getD i false=p i)→(∀ i,i<ops.size→∀ o,ops[i]? =some o→∀ e∈o.after,Region.binds .any e=true→e.on<ops.size)→
  Region.linearise.go .any ops fuel t listed acc=acc.reverse++pickL ops fuel t p:=by
 intro fuel
 induction fuel with
 |zero=>intro t listed acc p _ _ _;simp[Region.linearise.go,pickL]
 |succ fuel ih=>
  intro t listed acc p hsz hp he
  have hr:((List.range ops.size).filter fun i=> !listed.getD i true && ((ops[i]?).map (·.after.all fun e=> !Region.binds .any e || listed.getD e.on false)).getD false)=readyL ops p:=by
   unfold readyL
   refine List.filter_congr fun i hi=> ?_
   have hi':i<ops.size:=List.mem_range.1 hi
   rw[(hp i hi').1]
   congr 1
   have ho:ops[i]? =some ops[i]:=Array.getElem?_eq_getElem hi'
   rw[ho]
   simp only[Option.map_some,Option.getD_some]
   rw[Bool.eq_iff_iff,Array.all_eq_true_iff_forall_mem,Array.all_eq_true_iff_forall_mem]
   refine forall_congr' fun e=>forall_congr' fun hm=> ?_
   cases hb:Region.binds .any e with
   |false=>simp
   |true=>rw[(hp e.on (he i hi' _ ho e hm hb)).2]
  simp only[Region.linearise.go,pickL,hr]
  cases hi:(readyL ops p)[t % (readyL ops p).length]? with
  |none=>simp
  |some i=>
   simp only
   have him:i<ops.size:=by
    have:=List.mem_of_getElem? hi
    unfold readyL at this
    exact List.mem_range.1 (List.mem_filter.1 this).1
   rw[ih (t / (readyL ops p).length) (listed.setIfInBounds i true) (i::acc) (fun j=>p j || Nat.beq i j) (by simpa using hsz) (fun j hj=> ?_) he]
   ·simp
   ·have h1:=hp j hj
    by_cases e:i=j
    ·subst e
     simp[Array.getD_eq_getD_getElem?,Array.getElem?_setIfInBounds,hsz,him,Nat.beq_refl]
    ·have e':Nat.beq i j=false:=by
      cases hb:Nat.beq i j with
      |false=>rfl
      |true=>exact absurd (Nat.eq_of_beq_eq_true hb) e
     simp only[Array.getD_eq_getD_getElem?,Array.getElem?_setIfInBounds,e',Bool.or_false]at h1 ⊢
     simpa[e]using h1
theorem linearise_pick(ops:Array Oper)(hf:fwdOK ops=true)(t:Nat):Region.linearise .any ops t=pickL ops ops.size t fun i=> !Nat.blt i ops.size:=by
 unfold Region.linearise
 rw[go_pickL ops ops.size t _ [] (fun i=> !Nat.blt i ops.size) (by simp) (fun i hi=> ?_) (fun i hi o ho e he hb=> ?_)]
 ·rfl
 ·have:Nat.blt i ops.size=true:=by rw[Nat.blt_eq];exact hi
  simp[this,Array.getD_eq_getD_getElem?,Array.getElem?_replicate,hi]
 ·unfold fwdOK at hf
  have h1:=List.all_eq_true.1 hf i (List.mem_range.2 hi)
  rw[ho]at h1
  simp only[Option.map_some,Option.getD_some,Array.all_eq_true_iff_forall_mem]at h1
  have h2:=h1 e he
  rw[hb]at h2
  simp only[Bool.not_true,Bool.false_or,Nat.blt_eq]at h2
  omega
theorem filter_lt'{α:Type}(p q:α→Bool):∀ (l:List α),(∀ x∈l,q x=true→p x=true)→(∃ x∈l,p x=true∧q x=false)→(l.filter q).length+1≤(l.filter p).length
 |[],_,⟨x,hx,_⟩=>by cases hx
 |a::l,h,⟨x,hx,h1,h2⟩=>by
  rcases List.mem_cons.1 hx with rfl|hx
  ·rw[List.filter_cons,List.filter_cons,if_neg (by simp[h2]),if_pos h1,List.length_cons]
   have:(l.filter q).length≤(l.filter p).length:=by
    rw[← List.countP_eq_length_filter,← List.countP_eq_length_filter]
    exact List.countP_mono_left fun y hy hq=>h y (List.mem_cons_of_mem _ hy) hq
   omega
  ·have ih:=filter_lt' p q l (fun y hy=>h y (List.mem_cons_of_mem _ hy)) ⟨x,hx,h1,h2⟩
   rw[List.filter_cons,List.filter_cons]
   have ha:=h a List.mem_cons_self
   split
   ·rename_i hq
    rw[if_pos (ha hq),List.length_cons,List.length_cons];omega
   ·split
    ·rw[List.length_cons];omega
    ·exact ih
theorem fwd_at{ops:Array Oper}(hf:fwdOK ops=true){i:Nat}(hi:i<ops.size):∀ e∈ops[i].after,Region.binds .any e=true→e.on<i:=fun e he hb=>by
 unfold fwdOK at hf
 have h1:=List.all_eq_true.1 hf i (List.mem_range.2 hi)
 rw[Array.getElem?_eq_getElem hi]at h1
 simp only[Option.map_some,Option.getD_some,Array.all_eq_true_iff_forall_mem]at h1
 have h2:=h1 e he
 rw[hb]at h2
 simpa only[Bool.not_true,Bool.false_or,Nat.blt_eq]using h2
theorem last_at{ops:Array Oper}{k:Nat}(hl:lastOK ops k=true){i j:Nat}(hi:i<ops.size)(hk:k≤i)(hj:j<i):∃ e∈ops[i].after,Region.binds .any e=true∧e.on=j:=by
 unfold lastOK at hl
 rw[Bool.and_eq_true]at hl
 have h1:=List.all_eq_true.1 hl.2 i (List.mem_range.2 hi)
 rw[Bool.or_eq_true]at h1
 rcases h1 with h1|h1
 ·rw[Nat.blt_eq]at h1;omega
 ·have h2:=List.all_eq_true.1 h1 j (List.mem_range.2 hj)
  unfold waits at h2
  rw[Array.getElem?_eq_getElem hi]at h2
  simp only[Option.map_some,Option.getD_some]at h2
  rw[Array.any_eq_true]at h2
  obtain⟨m,hm,h3⟩:=h2
  rw[Bool.and_eq_true]at h3
  exact⟨_,Array.getElem_mem hm,h3.1,Nat.eq_of_beq_eq_true h3.2⟩
theorem last_le{ops:Array Oper}{k:Nat}(hl:lastOK ops k=true):k≤ops.size:=by
 unfold lastOK at hl
 rw[Bool.and_eq_true]at hl
 exact Nat.le_of_ble_eq_true hl.1
theorem mem_readyL{ops:Array Oper}{p:Nat→Bool}{i:Nat}:i∈readyL ops p↔∃ h:i<ops.size,p i=false∧∀ e∈ops[i].after,Region.binds .any e=true→p e.on=true:=by
 unfold readyL
 rw[List.mem_filter,List.mem_range]
 constructor
 ·rintro⟨h,h2⟩
  rw[Bool.and_eq_true,Array.getElem?_eq_getElem h]at h2
  simp only[Option.map_some,Option.getD_some,Array.all_eq_true_iff_forall_mem]at h2
  refine⟨h,by simpa using h2.1,fun e he hb=> ?_⟩
  have:=h2.2 e he
  rw[hb]at this
  simpa using this
 ·rintro⟨h,h1,h2⟩
  refine⟨h,?_⟩
  rw[Bool.and_eq_true,Array.getElem?_eq_getElem h]
  simp only[Option.map_some,Option.getD_some,Array.all_eq_true_iff_forall_mem]
  refine⟨by simpa using h1,fun e he=> ?_⟩
  cases hb:Region.binds .any e with
  |false=>rfl
  |true=>simpa using h2 e he hb
theorem pickL_last{ops:Array Oper}{k:Nat}(hf:fwdOK ops=true)(hl:lastOK ops k=true):∀ (d m fuel t:Nat) (q:Nat→Bool),ops.size-m=d→k≤m→d≤fuel→(∀ i,q i=(Nat.blt i m || !Nat.blt i ops.size))→m≤ops.size→pickL ops fuel t q=List.range' m d:=by
 intro d
 induction d with
 |zero=>
  intro m fuel t q hd _ _ hq hm
  have hr:readyL ops q=[]:=by
   rw[List.eq_nil_iff_forall_not_mem]
   intro i hi
   obtain⟨h,h1,_⟩:=mem_readyL.1 hi
   rw[hq]at h1
   have:Nat.blt i m=true:=by rw[Nat.blt_eq];omega
   rw[this]at h1;cases h1
  cases fuel with
  |zero=>rfl
  |succ fuel=>simp[pickL,hr]
 |succ d ih=>
  intro m fuel t q hd hk hfu hq hm
  cases fuel with
  |zero=>omega
  |succ fuel=>
   have hmn:m<ops.size:=by omega
   have hbm:Nat.blt m m=false:=by cases hb:Nat.blt m m with|false=>rfl|true=>rw[Nat.blt_eq]at hb;omega
   have hbn:Nat.blt m ops.size=true:=by rw[Nat.blt_eq];exact hmn
   have hr:readyL ops q=[m]:=by
    have hsub:∀ i,i∈readyL ops q↔i=m:=fun i=>by
     rw[mem_readyL]
     constructor
     ·rintro⟨h,h1,h2⟩
      rcases Nat.lt_trichotomy i m with h3|h3|h3
      ·rw[hq]at h1
       have:Nat.blt i m=true:=by rw[Nat.blt_eq];exact h3
       rw[this]at h1;cases h1
      ·exact h3
      ·obtain⟨e,he,hb,hon⟩:=last_at hl h (by omega) h3
       have:=h2 e he hb
       rw[hon,hq,hbm,hbn]at this;cases this
     ·rintro rfl
      refine⟨hmn,by rw[hq,hbm,hbn];rfl,fun e he hb=> ?_⟩
      have:=fwd_at hf hmn e he hb
      rw[hq]
      have:Nat.blt e.on i=true:=by rw[Nat.blt_eq];exact this
      rw[this];rfl
    have hnd:(readyL ops q).Nodup:=List.Pairwise.filter _ List.nodup_range
    match hL:readyL ops q,hsub,hnd with
    |[],hs,_=>exact absurd ((hs m).2 rfl) (by simp)
    |[x],hs,_=>rw[(hs x).1 (by simp)]
    |x::y::l,hs,hn=>
     have h1:=(hs x).1 (by simp)
     have h2:=(hs y).1 (by simp)
     simp[h1,h2]at hn
   simp only[pickL,hr,List.length_singleton,Nat.mod_one,List.getElem?_cons_zero]
   rw[List.range'_succ,ih (m+1) fuel _ _ (by omega) (by omega) (by omega) (fun i=> ?_) (by omega)]
   rw[hq]
   by_cases h1:i<m
   ·have e1:Nat.blt i m=true:=by rw[Nat.blt_eq];exact h1
    have e2:Nat.blt i (m+1)=true:=by rw[Nat.blt_eq];omega
    rw[e1,e2];rfl
   ·have e1:Nat.blt i m=false:=by cases hb:Nat.blt i m with|false=>rfl|true=>rw[Nat.blt_eq]at hb;omega
    by_cases h2:i=m
    ·subst h2
     have e2:Nat.blt i (i+1)=true:=by rw[Nat.blt_eq];omega
     rw[e2,Nat.beq_refl];simp
    ·have e2:Nat.blt i (m+1)=false:=by cases hb:Nat.blt i (m+1)with|false=>rfl|true=>rw[Nat.blt_eq]at hb;omega
     have e3:Nat.beq m i=false:=by cases hb:Nat.beq m i with|false=>rfl|true=>exact absurd (Nat.eq_of_beq_eq_true hb).symm h2
     rw[e1,e2,e3];simp
theorem pickL_lt(ops:Array Oper):∀ (fuel t:Nat) (p:Nat→Bool) {i:Nat},i∈pickL ops fuel t p→i<ops.size
 |0,_,_,_,h=>by cases h
 |fuel+1,t,p,i,h=>by
  unfold pickL at h
  split at h
  ·rename_i j hj
   rcases List.mem_cons.1 h with rfl|h
   ·obtain⟨h1,_⟩:=mem_readyL.1 (List.mem_of_getElem? hj);exact h1
   ·exact pickL_lt ops fuel _ _ h
  ·cases h
theorem pickL_split{ops pre:Array Oper}{k:Nat}(hf:fwdOK ops=true)(hl:lastOK ops k=true)(hp:pre.size=k)(he:∀ i (h:i<k) (h':i<ops.size) (h'':i<pre.size),pre[i]=ops[i]):
  ∀ (fuel t:Nat) (p q:Nat→Bool),((List.range k).filter fun i=> !p i).length≤fuel→(∀ i,q i=if i<k then p i else !Nat.blt i ops.size)→pickL ops (fuel+(ops.size-k)) t q=pickL pre fuel t p++List.range' k (ops.size-k):=by
 have hkn:=last_le hl
 have done:∀ (fuel t:Nat) (p q:Nat→Bool),(∀ i,i<k→p i=true)→(∀ i,q i=if i<k then p i else !Nat.blt i ops.size)→pickL ops (fuel+(ops.size-k)) t q=List.range' k (ops.size-k):=fun fuel t p q hall hq=>
  pickL_last hf hl _ k _ t q rfl (Nat.le_refl _) (by omega) (fun i=>by
   rw[hq]
   by_cases h:i<k
   ·have e1:Nat.blt i k=true:=by rw[Nat.blt_eq];exact h
    rw[if_pos h,hall i h,e1];rfl
   ·have e1:Nat.blt i k=false:=by cases hb:Nat.blt i k with|false=>rfl|true=>rw[Nat.blt_eq]at hb;omega
    rw[if_neg h,e1];rfl) hkn
 intro fuel
 induction fuel with
 |zero=>
  intro t p q hc hq
  have h0:=List.eq_nil_of_length_eq_zero (Nat.le_zero.1 hc)
  exact done 0 t p q (fun i hi=>by
   have:=List.filter_eq_nil_iff.1 h0 i (List.mem_range.2 hi)
   simpa using this) hq
 |succ fuel ih=>
  intro t p q hc hq
  by_cases hall:∀ i,i<k→p i=true
  ·have hr:readyL pre p=[]:=by
    rw[List.eq_nil_iff_forall_not_mem]
    intro i hi
    obtain⟨h,h1,_⟩:=mem_readyL.1 hi
    rw[hall i (by omega)]at h1;cases h1
   rw[done (fuel+1) t p q hall hq]
   simp[pickL,hr]
  ·obtain⟨i0,hi0,hmin⟩:∃ i0,(i0<k∧p i0=false)∧∀ j,j<i0→p j=true:=by
    have:∃ i,i<k∧p i=false:=by
     refine Classical.byContradiction fun hn=>hall fun i hi=> ?_
     cases hpi:p i with
     |true=>rfl
     |false=>exact absurd ⟨i,hi,hpi⟩ hn
    obtain⟨n,hn⟩:=this
    induction n using Nat.strongRecOn with
    |ind n ihn=>
     by_cases h:∃ j,j<n∧p j=false
     ·obtain⟨j,hj,hpj⟩:=h;exact ihn j hj ⟨by omega,hpj⟩
     ·refine⟨n,hn,fun j hj=> ?_⟩
      cases hpj:p j with
      |true=>rfl
      |false=>exact absurd ⟨j,hj,hpj⟩ h
   have hqp:∀ j,j<k→q j=p j:=fun j hj=>by rw[hq,if_pos hj]
   have hr:readyL ops q=readyL pre p:=by
    have hmem:∀ i,i∈readyL ops q↔i∈readyL pre p:=fun i=>by
     rw[mem_readyL,mem_readyL]
     constructor
     ·rintro⟨h,h1,h2⟩
      by_cases hik:i<k
      ·refine⟨by omega,by rw[← hqp i hik];exact h1,fun e hem hb=> ?_⟩
       rw[he i hik h (by omega)]at hem
       have h3:=fwd_at hf h e hem hb
       rw[← hqp _ (by omega)];exact h2 e hem hb
      ·obtain⟨e,hem,hb,hon⟩:=last_at hl h (by omega) (show i0<i by omega)
       have:=h2 e hem hb
       rw[hon,hqp i0 hi0.1,hi0.2]at this;cases this
     ·rintro⟨h,h1,h2⟩
      have hik:i<k:=by omega
      refine⟨by omega,by rw[hqp i hik];exact h1,fun e hem hb=> ?_⟩
      have hem':e∈pre[i].after:=by rw[he i hik (by omega) h];exact hem
      have h3:=fwd_at hf (show i<ops.size by omega) e hem hb
      rw[hqp _ (by omega)];exact h2 e hem' hb
    have e1:readyL ops q=(List.range k).filter (fun i=>decide (i∈readyL pre p)):=by
     unfold readyL at hmem ⊢
     have e2:List.range ops.size=List.range k++List.range' k (ops.size-k):=by
      have h:= @List.range'_append_1 0 k (ops.size-k)
      rw[Nat.zero_add,show k+(ops.size-k)=ops.size by omega]at h
      rw[List.range_eq_range',List.range_eq_range',← h]
     rw[e2,List.filter_append]
     have e3:(List.range' k (ops.size-k)).filter (fun i=> !q i && ((ops[i]?).map (·.after.all fun e=> !Region.binds .any e || q e.on)).getD false)=[]:=by
      rw[List.filter_eq_nil_iff]
      intro i hi hc'
      have h1:=(hmem i).1 (List.mem_filter.2 ⟨by rw[e2];exact List.mem_append_right _ hi,hc'⟩)
      have h2:=List.mem_range.1 (List.mem_filter.1 h1).1
      have h3:=List.mem_range'.1 hi
      omega
     rw[e3,List.append_nil]
     refine List.filter_congr fun i hi=> ?_
     have h1:=hmem i
     rw[List.mem_filter,List.mem_filter]at h1
     have h2:i∈List.range ops.size:=List.mem_range.2 (by have:=List.mem_range.1 hi;omega)
     have h3:i∈List.range pre.size:=List.mem_range.2 (by have:=List.mem_range.1 hi;omega)
     rw[Bool.eq_iff_iff,decide_eq_true_eq,List.mem_filter]
     constructor
     ·intro h;exact h1.1 ⟨h2,h⟩
     ·intro h;exact(h1.2 h).2
    rw[e1]
    conv=>rhs;unfold readyL
    rw[hp]
    refine List.filter_congr fun i hi=> ?_
    rw[Bool.eq_iff_iff,decide_eq_true_eq]
    unfold readyL
    rw[List.mem_filter,hp]
    exact⟨fun h=>h.2,fun h=>⟨hi,h⟩⟩
   have hne:readyL pre p≠[]:=fun e=>by
    have:i0∈readyL pre p:=mem_readyL.2 ⟨by omega,hi0.2,fun e hem hb=>by
     rw[he i0 hi0.1 (by omega) (by omega)]at hem
     exact hmin _ (fwd_at hf (show i0<ops.size by omega) e hem hb)⟩
    rw[e]at this;cases this
   have hlen:0<(readyL pre p).length:=List.length_pos_iff.2 hne
   obtain⟨i,hi⟩:∃ i,(readyL pre p)[t % (readyL pre p).length]? =some i:=⟨_,List.getElem?_eq_getElem (Nat.mod_lt _ hlen)⟩
   have him:=List.mem_of_getElem? hi
   obtain⟨h1,h2,_⟩:=mem_readyL.1 him
   rw[show fuel+1+(ops.size-k)=(fuel+(ops.size-k))+1 by omega]
   simp only[pickL,hr,hi]
   rw[List.cons_append,ih (t / (readyL pre p).length) (fun j=>p j || Nat.beq i j) (fun j=>q j || Nat.beq i j) ?_ (fun j=> ?_)]
   ·have:=filter_lt' (fun i=> !p i) (fun j=> !(p j || Nat.beq i j)) (List.range k) (fun x _ hx=>by simp at hx ⊢;exact hx.1) ⟨i,List.mem_range.2 (by omega),by simp[h2],by simp[Nat.beq_refl]⟩
    omega
   ·rw[hq]
    by_cases hj:j<k
    ·rw[if_pos hj,if_pos hj]
    ·rw[if_neg hj,if_neg hj]
     have:Nat.beq i j=false:=by cases hb:Nat.beq i j with|false=>rfl|true=>have:=Nat.eq_of_beq_eq_true hb;omega
     rw[this,Bool.or_false]
end Go.Sx
