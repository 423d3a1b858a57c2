/-
  The layer Sx, eighth part: every compiled operation is sound; regions; code; functions.
-/
import Derived.Test.YtcccbdelfhgmlaaGreatDoorSxComp
import Derived.Orders
set_option linter.unusedVariables false
set_option linter.unusedSimpArgs false
set_option linter.unusedSectionVars false
namespace Go.Sx
open Go.RowKit
section
variable {P:Program}[Glob P]{M:Mem}{w0:Base}{w:World}{σ:Store}{K:AV→Store→Prop}{rg:ag}{a:Act}{cfg:Nat→Nat}{d:Option Nat}{E:List PanicEntry→Store→Prop}
structure zZ(P:Program)[Glob P](M:Mem)(w0:Base)(w:World)(K:AV→Store→Prop)(E:List PanicEntry→Store→Prop)(o:Oper)(a:Act)(next:Act→World→Prop)(Q:Exit→Act→World→Prop):Prop where
 val:∀ (M':Mem) (x:AV) (σ':Store) (v:Value) (w':World),M.le M'→Inv P M' w0 σ' w'→R M' x v→K x σ'→next (a.put o.dst v) w'
 dn:∀ (M':Mem) (ch:List PanicEntry) (σ':Store) (w':World),M.le M'→Inv P M' w0 σ' w'→E ch σ'→Q (.panic ch) a w'
theorem dT{o:Oper}{next:Act→World→Prop}{Q:Exit→Act→World→Prop}(hg:zZ P M w0 w K E o a next Q)(s:Sem Value)(he:execOp a.eval o=(do pure (.value (← s))))(h:aD P M w0 K (s.run P w)):o.wp P a w next Q:=by
 obtain⟨v,w',M',x,σ',hr,hM,hI,hR,hk⟩:=h
 simp only[Oper.wp,he,Sem.run_bind,hr,Result.andThen_ok,Sem.run_pure,Oper.upon]
 exact hg.val M' x σ' v w' hM hI hR hk
theorem O0{M:Mem}:∀ (xs:List AV) (vs l:List Value),RL M xs vs→AO xs=some l→vs=l
 |[],vs,l,h,e=>by simp[AO]at e;subst e;exact h.rR
 |x::xs,vs,l,h,e=>by
  obtain⟨v,jh,rfl,hx,fK⟩:=h.bS
  unfold AO at e
  split at e
  ·simp_all
  ·rename_i y ys heq
   cases heq
   obtain⟨l',h1,rfl⟩:=ZQ.1 e
   rw[hx.ay,O0 xs jh l' fK h1]
  grind
theorem xB{M:Mem}:∀ (xs:List AV) (vs l:List Value),RL M xs vs→mR xs=some l→vs=l
 |[],vs,l,h,e=>by simp[mR]at e;subst e;exact h.rR
 |x::xs,vs,l,h,e=>by
  obtain⟨v,jh,rfl,hx,fK⟩:=h.bS
  unfold mR at e
  split at e
  ·simp_all
  ·rename_i y ys heq
   cases heq
   obtain⟨l',h1,rfl⟩:=ZQ.1 e
   rw[hx.ay,xB xs jh l' fK h1]
  ·rename_i tg b o ys heq
   cases heq
   obtain⟨l',h1,rfl⟩:=ZQ.1 e
   rw[hx.oJ,xB xs jh l' fK h1]
  ·rename_i zs ys heq
   cases heq
   split at e
   ·rename_i cs hc
    obtain⟨l',h1,rfl⟩:=ZQ.1 e
    obtain⟨us,rfl,yl⟩:=hx.qd
    rw[O0 zs us cs yl hc,xB xs jh l' fK h1]
   grind
  grind
theorem KM{f:FuncId}(h:iU P f=true)(args:Array Value)(w:World):(callFunc f args).run P w= .ok (.enter f args) w:=by
 unfold iU at h
 split at h
 ·rename_i fn hf
  simp at h
  obtain⟨c,hb⟩:=Ye.1 h.2
  simp[callFunc,hf,h.1,hb]
 grind
theorem Ll{o:Oper}{next:Act→World→Prop}{Q:Exit→Act→World→Prop}{f:FuncId}{as:List AV}{cs:List Value}(hg:zZ P M w0 w K E o a next Q)(hI:Inv P M w0 σ w)(hl:RL M as cs)(h:se P f as σ K E)
  (he:(execOp a.eval o).run P w= .ok (.enter f cs.toArray) w):o.wp P a w next Q:=by
 obtain⟨Qs,hs,h1,h2⟩:=h
 simp only[Oper.wp,he,Oper.upon]
 refine(hs M w0 w cs hI hl).mono fun e w' ⟨M',r,σ',hM,aP,hr,hq⟩=> ?_
 cases r with
 |ret x=>
  cases e with
  |returned v=>exact hg.val M' x σ' v w' hM aP hr (h1 x σ' hq)
  |_=>exact hr.elim
 |dn ch=>
  cases e with
  |panicked G3=>have:G3=ch:=hr;subst this;exact hg.dn M' _ σ' w' hM aP (h2 _ σ' hq)
  |_=>exact hr.elim
theorem mG{o:Oper}{next:Act→World→Prop}{Q:Exit→Act→World→Prop}(hg:zZ P M w0 w K E o a next Q)(hI:Inv P M w0 σ w)(args:List Operand)(hl:RL M (bo rg args) (args.map a.eval)){ti:List TI}(eH:gJ P o.op=ti)(h:lG P o.op o.type ti args (bo rg args) σ K):o.wp P a w next Q:=by
 obtain⟨nx,w',M',x,v,σ',hr,hn,hM,aP,hx,hk⟩:=h eH M w0 w a.eval hI hl
 have hr:(execOp a.eval o).run P w= .ok nx w':=hr
 simp only[Oper.wp,hr,Oper.upon]
 cases nx with
 |value u=>have:v=u:=hn;subst this;exact hg.val M' x σ' v w' hM aP hx hk
 |skip=>have:v=undef:=hn;subst this;exact hg.val M' x σ' undef w' hM aP hx hk
 |_=>exact hn.elim
theorem acp{o:Oper}{mo:aw}(hc:Dp P o=some mo)(h:aj P cfg d rg σ K E mo)(hI:Inv P M w0 σ w)(hR:bQ M rg a){next:Act→World→Prop}{Q:Exit→Act→World→Prop}(hg:zZ P M w0 w K E o a next Q):
  o.wp P a w next Q:=by
 obtain⟨dst,op,ty,pos,after,guard⟩:=o
 unfold Dp at hc
 cases op<;>simp only[reduceCtorEq]at hc
 case move x=>cases hc;exact dT hg (pure (a.eval x)) rfl (Uh hI hR h)
 case assign x=>cases hc;exact dT hg (pure (a.eval x)) rfl (Uh hI hR h)
 case pick c x y=>cases hc;exact dT hg (do pure (if ← asBool (a.eval c)then a.eval x else a.eval y)) (by simp[execOp]) (awe hI hR h)
 case alloc e=>
  split at hc
  ·rename_i i hi
   obtain⟨z,hz,rfl⟩:=ZQ.1 hc
   exact dT hg _ rfl (avX hi hz hI h)
  ·cases hc
 case box e x=>cases hc;exact dT hg _ rfl (avY hI hR h)
 case build t parts=>
  split at hc
  ·rename_i fs i ht hi
   split at hc
   ·rename_i cV
    split at hc
    ·rename_i z ps hz ak
     cases hc
     exact dT hg _ rfl (avZ ht hi hz cV ak hI hR h)
    ·cases hc
   ·cases hc
  ·cases hc
 case buildSlice t n parts=>
  split at hc
  ·rename_i e ht
   split at hc
   ·rename_i i hi
    split at hc
    ·rename_i z hz
     split at hc
     ·rename_i hp
      cases hc
      exact dT hg _ rfl (awd ht hi hz hp.1 hp.2.1 hI hR h)
     ·cases hc
    ·cases hc
   ·cases hc
  ·cases hc
 case load t x=>
  obtain⟨⟨g,n⟩,ht,rfl⟩:=ZQ.1 hc
  exact dT hg _ rfl (awa ht hI hR h)
 case store t x y=>
  obtain⟨⟨g,n⟩,ht,rfl⟩:=ZQ.1 hc
  obtain⟨w',σ',hr,aP,hk⟩:=awg ht hI hR h
  simp only[Oper.wp,execOp,Sem.run_bind,hr,Result.andThen_ok,Sem.run_pure,Oper.upon]
  exact hg.val M _ σ' undef w' (Mem.le.refl _) aP (.v _) hk
 case nilCheck x=>
  cases hc
  have hx:=hR.ev x
  simp only[aj]at h
  split at h
  ·rename_i ad he
   rw[he]at hx
   exact dT hg (pure (a.eval x)) (by simp[execOp,hx.ay]) (aD.same hI hx h rfl)
  ·rename_i tg b o he
   rw[he]at hx
   exact dT hg (pure (a.eval x)) (by simp[execOp,hx.oJ]) (aD.same hI hx h rfl)
  ·rename_i l he
   rw[he]at hx
   obtain⟨b,off,cs,hv,_⟩:=hx.qf
   exact dT hg (pure (a.eval x)) (by simp[execOp,hv]) (aD.same hI hx h rfl)
  ·rename_i f b c he
   rw[he]at hx
   exact dT hg (pure (a.eval x)) (by simp[execOp,hx.ay]) (aD.same hI hx h rfl)
  ·rename_i f b c he
   rw[he]at hx
   obtain⟨va,vc,hv,_⟩:=hx.SQ
   exact dT hg (pure (a.eval x)) (by simp[execOp,hv]) (aD.same hI hx h rfl)
  ·exact h.elim
 case binOp op t x y ty2=>
  have DY:∀ neg,Dm P neg t x y=some mo→aD P M w0 K ((do eqGuard (if neg then .neq else .eql) t x y (a.eval x) (a.eval y);binOp (if neg then .neq else .eql) t (a.eval x) (a.eval y):Sem Value).run P w):=by
   intro neg hc
   unfold Dm at hc
   split at hc
   ·cases hc;have:=KS (t:=t) hI hR h;cases neg<;>exact this
   ·cases hc;have:=KS (t:=t) hI hR h;cases neg<;>exact this
   ·rename_i fs ht
    split at hc
    ·rename_i hp
     obtain⟨ks,hk,rfl⟩:=ZQ.1 hc
     exact av1 ht hp.1 hp.2 hk hI hR h
    ·cases hc
   ·rename_i ht;cases hc;exact Cq (k:= .bool) ht hI hR h
   ·rename_i e ht;cases hc;exact Cq (k:= .slice) ⟨_,ht⟩ hI hR h
   ·rename_i e ht;cases hc;exact Cq (k:= .map) ⟨_,_,ht⟩ hI hR h
   ·rename_i e ht;cases hc;exact Cq (k:= .func) ⟨_,_,_,ht⟩ hI hR h
   ·rename_i e ht;cases hc;exact Cq (k:= .ptr) ⟨_,ht⟩ hI hR h
   ·cases hc
  cases op
  case eql=>
   simp only at hc
   split at hc
   ·rename_i i he;cases hc;exact dT hg _ rfl (DY false he)
   ·cases hc;exact mG hg hI [x,y] (ga hR _) rfl h
  case neq=>
   simp only at hc
   split at hc
   ·rename_i i he;cases hc;exact dT hg _ rfl (DY true he)
   ·cases hc;exact mG hg hI [x,y] (ga hR _) rfl h
  all_goals(cases hc;exact dT hg _ rfl (KS (t:=t) hI hR h))
 case unOp op t x=>cases hc;exact dT hg _ rfl (awh hI hR h)
 case convert src ayl x=>
  split at hc
  ·rename_i k k' hs hd
   cases hc
   exact dT hg _ rfl (av0 hs hd hI hR h)
  ·rename_i hs hd
   cases hc
   have hx:=hR.ev x
   refine dT hg _ rfl ?_
   simp only[aj]at h
   split at h
   ·rename_i s he
    rw[he]at hx
    rw[hx.ay]
    exact aD.same hI (.v _) h (by simp[convert,bw hs,bw hd])
   ·exact h.elim
  ·cases hc;exact mG hg hI [x] (ga hR _) rfl h
 case makeInterface t x=>
  split at hc
  ·cases hc
  ·rename_i dsc aJ ht
   cases hc
   refine dT hg (Instr.makeInterface t (a.eval x)) rfl (aD.same hI (.iK t _ _ (hR.ev x)) h ?_)
   cases dsc<;>first|exact(aJ _ rfl).elim|simp[Instr.makeInterface,bw ht]
  ·cases hc
 case makeFunc fn first captured=>
  cases hc
  simp only[aj]at h
  split at h
  ·rename_i l1 l2 h1 h2
   have e1:=xB _ _ _ (ga hR first.toList) h1
   have e2:=xB _ _ _ (ga hR captured.toList) h2
   refine dT hg (Instr.makeFunc fn (first.map a.eval) (captured.map a.eval)) rfl (aD.same hI (.v _) h ?_)
   have e3:first.map a.eval=l1.toArray:=by apply YJ;rw[← e1];simp
   have e4:captured.map a.eval=l2.toArray:=by apply YJ;rw[← e2];simp
   simp[Instr.makeFunc,e3,e4]
  ·split at h
   ·rename_i f
    refine dT hg (Instr.makeFunc (.func f) (first.map a.eval) (captured.map a.eval)) rfl (aD.same hI (R.ags (ga hR first.toList) (ga hR captured.toList)) h ?_)
    simp only[Instr.makeFunc,Sem.run_pure]
    congr 2<;>(apply YJ;simp)
   ·exact h.elim
 case slice t x lo hi mx=>
  cases mx with
  |none=>
   simp only at hc
   split at hc
   ·rename_i e ht
    split at hc
    ·rename_i i dk
     cases hc
     exact dT hg _ rfl (awf ht dk hI hR h)
    ·cases hc
   ·cases hc;exact mG hg hI (x::(lo.toList++hi.toList)) (ga hR _) rfl h
  |some m=>simp at hc
 case fieldAddr t x i=>
  split at hc
  ·rename_i fs ht
   split at hc
   ·rename_i f hf
    split at hc
    ·rename_i k hk
     split at hc
     ·rename_i h0
      cases hc
      exact dT hg _ rfl (av3 ht hf hk h0 hI hR h)
     ·cases hc
    ·cases hc
   ·cases hc
  ·cases hc
 case field t x i=>
  split at hc
  ·rename_i fs ht
   split at hc
   ·rename_i f hf
    obtain⟨⟨g,n⟩,hgn,rfl⟩:=ZQ.1 hc
    exact dT hg _ rfl (av4 ht hf hgn hI hR h)
   ·cases hc
  ·cases hc
 case indexAddr t x i=>
  split at hc
  ·rename_i e ht
   split at hc
   ·rename_i k hk;cases hc;exact dT hg _ rfl (av5 ht hk hI hR h)
   ·cases hc
  ·rename_i n e ht
   split at hc
   ·rename_i k hk;cases hc;exact dT hg _ rfl (av6 ht hk hI hR h)
   ·cases hc
  ·cases hc
 case index t x i=>
  split at hc
  ·rename_i ht;cases hc;exact dT hg _ rfl (av7 ht hI hR h)
  ·cases hc;exact mG hg hI [x,i] (ga hR _) rfl h
 case makeMap t r=>
  cases r with
  |none=>cases hc;exact mG hg hI [] (ga hR _) rfl h
  |some r=>cases hc
 case insert t m k x=>cases hc;exact mG hg hI [m,k,x] (ga hR _) rfl h
 case mapUpdate t m k x=>cases hc;exact mG hg hI [m,k,x] (ga hR _) rfl h
 case mapEntry t m k=>cases hc;exact mG hg hI [m,k] (ga hR _) rfl h
 case entryStore t m k x=>cases hc;exact mG hg hI [m,k,x] (ga hR _) rfl h
 case lookup t m k ok=>cases hc;exact mG hg hI [m,k] (ga hR _) rfl h
 case makeSlice t n c=>cases hc;exact mG hg hI [n,c] (ga hR _) rfl h
 case extract x i=>cases hc;exact dT hg _ rfl (av2 hI hR h)
 case panic x=>
  cases hc
  simp only[aj]at h
  split at h
  ·rename_i t y e
   split at h
   ·rename_i v e2
    have hx:=bQ.ev hR x
    rw[e]at hx
    obtain⟨u,hu,hy⟩:=hx.SS
    have h2:[u]=[v]:=xB [y] [u] [v] (RL.cons hy RL.nil) e2
    have h3:u=v:=by simpa using h2
    subst h3
    have hr:(execOp a.eval ⟨dst,.panic x,ty,pos,after,guard⟩).run P w= .halt (.panic (.iface t u)) w:=by
     simp[execOp,hu,Instr.panic,Sem.run_bind]
    simp only[Oper.wp,hr,Oper.upon]
    exact hg.dn M _ σ w (Mem.le.refl _) hI h
   ·exact h.elim
  ·exact h.elim
 case call c=>
  split at hc
  case h_2=>
   split at hc
   ·cases hc;exact mG hg hI c.args.toList (ga hR _) rfl h
   ·cases hc
  rename_i ayB gO
  cases hc
  replace hc:=gO
  obtain⟨callee,args,argTypes⟩:=c
  unfold Ol at hc
  split at hc
  ·rename_i f jq
   simp only at jq;subst jq
   split at hc
   ·rename_i b7
    cases hc
    refine Ll hg hI (ga hR args.toList) h ?_
    have e:(args.toList.map a.eval).toArray=args.map a.eval:=by apply YJ;simp
    simp only[e]
    simp[execOp,resolve,Deferred.ofValue,invoke,Act.eval,KM b7]
   ·cases hc
  ·rename_i f hnf jq
   simp only at jq;subst jq
   cases hc
   simp only[aj]at h
   split at h
   ·rename_i g b c he
    obtain⟨b7,h⟩:=h
    have hf:=hR.ev f
    rw[he]at hf
    refine Ll hg hI (RL.append (RL.append (RL.exact b.toList) (ga hR args.toList)) (RL.exact c.toList)) h ?_
    simp[execOp,resolve,Deferred.ofValue,invoke,hf.ay,KM b7]
   ·rename_i g b c he
    obtain⟨b7,h⟩:=h
    have hf:=hR.ev f
    rw[he]at hf
    obtain⟨va,vc,hv,ha,hc⟩:=hf.SQ
    refine Ll hg hI (RL.append (RL.append ha (ga hR args.toList)) hc) h ?_
    simp[execOp,resolve,Deferred.ofValue,invoke,hv,KM b7]
   ·exact h.elim
  ·rename_i jq
   simp only at jq;subst jq
   simp only at hc
   split at hc
   ·rename_i x t hx rq
    have e1:args= #[x]:=by apply YJ;simpa using hx
    have e2:argTypes= #[t]:=by apply YJ;simpa using rq
    subst e1 e2
    split at hc
    ·rename_i ht;cases hc;exact dT hg (Builtin.len_ #[t] ty #[a.eval x]) (by simp[execOp,resolve,invoke,builtin]) (av9 ht hI hR h)
    ·rename_i e ht;cases hc;exact dT hg (Builtin.len_ #[t] ty #[a.eval x]) (by simp[execOp,resolve,invoke,builtin]) (av8 ht hI hR h)
    ·cases hc
   ·cases hc
  ·rename_i jq
   simp only at jq;subst jq
   simp only at hc
   split at hc
   ·rename_i x y t u hx rq
    have e1:args= #[x,y]:=by apply YJ;simpa using hx
    have e2:argTypes= #[t,u]:=by apply YJ;simpa using rq
    subst e1 e2
    split at hc
    ·rename_i e e' ht hu
     split at hc
     ·rename_i i hi
      split at hc
      ·rename_i z hz
       split at hc
       ·rename_i hp
        cases hc
        exact dT hg (Builtin.append_ #[t,u] ty #[a.eval x,a.eval y]) (by simp[execOp,resolve,invoke,builtin]) (Uf ht (.inl ⟨_,hu⟩) hi hz hp.1 hp.2.1 hp.2.2 hI hR h)
       ·cases hc
      ·cases hc
     ·cases hc
    ·rename_i e ht hu
     split at hc
     ·rename_i i hi
      split at hc
      ·rename_i z hz
       split at hc
       ·rename_i hp
        cases hc
        exact dT hg (Builtin.append_ #[t,u] ty #[a.eval x,a.eval y]) (by simp[execOp,resolve,invoke,builtin]) (Uf ht (.inr hu) hi hz hp.1 hp.2.1 hp.2.2 hI hR h)
       ·cases hc
      ·cases hc
     ·cases hc
    ·cases hc
   ·cases hc
  ·rename_i jq
   simp only at jq;subst jq
   simp only at hc
   split at hc
   ·rename_i x y hx
    have e1:args= #[x,y]:=by apply YJ;simpa using hx
    subst e1
    cases hc
    exact dT hg (Builtin.max_ argTypes ty #[a.eval x,a.eval y]) (by simp[execOp,resolve,invoke,builtin]) (awb hI hR h)
   ·cases hc
  ·rename_i jq
   simp only at jq;subst jq
   simp only at hc
   split at hc
   ·rename_i x y hx
    have e1:args= #[x,y]:=by apply YJ;simpa using hx
    subst e1
    cases hc
    exact dT hg (Builtin.min_ argTypes ty #[a.eval x,a.eval y]) (by simp[execOp,resolve,invoke,builtin]) (awc hI hR h)
   ·cases hc
  ·cases hc
end
end Go.Sx
namespace Go.Sx
def waits(ops:Array Oper)(i j:Nat):Bool:=((ops[i]?).map fun o=>o.after.any fun e=>Region.binds .any e && Nat.beq e.on j).getD false
def xG(ops:Array Oper):Bool:=(List.range ops.size).all fun i=>((ops[i]?).map fun o=>o.after.all fun e=> !Region.binds .any e || Nat.blt e.on i).getD false
def tJ(ops:Array Oper)(k:Nat):Bool:=Nat.ble k ops.size && (List.range ops.size).all fun i=>Nat.blt i k || (List.range i).all fun j=>waits ops i j
def ew(ops:Array Oper)(listed:Nat→Bool):List Nat:=
 (List.range ops.size).filter fun i=> !listed i && ((ops[i]?).map (·.after.all fun e=> !Region.binds .any e || listed e.on)).getD false
def jd(ops:Array Oper):Nat→Nat→(Nat→Bool)→List Nat
 |0,_,_=>[]
 |fuel+1,t,listed=>match(ew ops listed)[t % (ew ops listed).length]? with
  |some i=>i::jd ops fuel (t / (ew ops listed).length) fun j=>listed j || Nat.beq i j
  |none=>[]
theorem ael(ops:Array Oper):∀ (fuel t:Nat) (listed:Array Bool) (acc:List Nat) (p:Nat→Bool),listed.size=ops.size→(∀ i,i<ops.size→listed.getD i true=p i∧listed.getD i false=p i)→(∀ i,i<ops.size→∀ o,ops[i]? =some o→∀ e∈o.after,Region.binds .any e=true→e.on<ops.size)→
  Region.linearise.go .any ops fuel t listed acc=acc.reverse++jd ops fuel t p:=by
 intro fuel
 induction fuel with
 |zero=>intro t listed acc p _ _ _;simp[Region.linearise.go,jd]
 |succ fuel ih=>
  intro t listed acc p aQ hp he
  have hr:((List.range ops.size).filter fun i=> !listed.getD i true && ((ops[i]?).map (·.after.all fun e=> !Region.binds .any e || listed.getD e.on false)).getD false)=ew ops p:=by
   unfold ew
   refine List.filter_congr fun i hi=> ?_
   have dk:i<ops.size:=Y6.1 hi
   rw[(hp i dk).1]
   congr 1
   have ho:ops[i]? =some ops[i]:=ZL dk
   rw[ho]
   simp only[Zh,Zx]
   grind
  simp only[Region.linearise.go,jd,hr]
  cases hi:(ew ops p)[t % (ew ops p).length]? with
  |none=>simp
  |some i=>
   simp only
   have I6:i<ops.size:=by
    have:=List.mem_of_getElem? hi
    unfold ew at this
    exact Y6.1 (Ze.1 this).1
   rw[ih (t / (ew ops p).length) (listed.setIfInBounds i true) (i::acc) (fun j=>p j || Nat.beq i j) (by simpa using aQ) (fun j hj=> ?_) he]
   ·simp
   ·have h1:=hp j hj
    by_cases e:i=j
    ·subst e
     simp[Z2,Zv,aQ,I6,YB]
    ·have e':Nat.beq i j=false:=by
      cases hb:Nat.beq i j with
      |false=>rfl
      |true=>exact absurd (ZB hb) e
     simp only[Z2,Zv,e',Bool.or_false]at h1 ⊢
     simpa[e]using h1
theorem Se(ops:Array Oper)(hf:xG ops=true)(t:Nat):Region.linearise .any ops t=jd ops ops.size t fun i=> !Nat.blt i ops.size:=by
 unfold Region.linearise
 rw[ael ops ops.size t _ [] (fun i=> !Nat.blt i ops.size) (by simp) (fun i hi=> ?_) (fun i hi o ho e he hb=> ?_)]
 ·rfl
 ·simp_all
 ·have h1:=ZA.1 hf i (Y6.2 hi)
  rw[ho]at h1
  simp only[Zh,Zx,ZE]at h1
  have h2:=h1 e he
  rw[hb]at h2
  simp at h2
  omega
theorem Px{α:Type}(p q:α→Bool):∀ (l:List α),(∀ x∈l,q x=true→p x=true)→(∃ x∈l,p x=true∧q x=false)→(l.filter q).length+1≤(l.filter p).length
 |[],_,⟨x,hx,_⟩=>by cases hx
 |a::l,h,⟨x,hx,h1,h2⟩=>by
  rcases ZV.1 hx with rfl|hx
  ·rw[List.filter_cons,List.filter_cons,Z9 (by simp[h2]),Z8 h1,Z6]
   have:(l.filter q).length≤(l.filter p).length:=by
    rw[← List.countP_eq_length_filter,← List.countP_eq_length_filter]
    exact List.countP_mono_left fun y hy hq=>h y (ZU _ hy) hq
   omega
  ·have ih:=Px p q l (fun y hy=>h y (ZU _ hy)) ⟨x,hx,h1,h2⟩
   grind
theorem DK{ops:Array Oper}(hf:xG ops=true){i:Nat}(hi:i<ops.size):∀ e∈ops[i].after,Region.binds .any e=true→e.on<i:=fun e he hb=>by
 have h1:=ZA.1 hf i (Y6.2 hi)
 rw[ZL hi]at h1
 simp only[Zh,Zx,ZE]at h1
 have h2:=h1 e he
 simp_all
theorem R8{ops:Array Oper}{k:Nat}(hl:tJ ops k=true){i j:Nat}(hi:i<ops.size)(hk:k≤i)(hj:j<i):∃ e∈ops[i].after,Region.binds .any e=true∧e.on=j:=by
 unfold tJ at hl
 rw[Z0]at hl
 have h1:=ZA.1 hl.2 i (Y6.2 hi)
 rw[Y7]at h1
 rcases h1 with h1|h1
 ·rw[Yd]at h1;omega
 ·have h2:=ZA.1 h1 j (Y6.2 hj)
  unfold waits at h2
  rw[ZL hi]at h2
  simp only[Zh,Zx]at h2
  rw[X2]at h2
  obtain⟨m,hm,h3⟩:=h2
  rw[Z0]at h3
  exact⟨_,Ys hm,h3.1,ZB h3.2⟩
theorem af1{ops:Array Oper}{k:Nat}(hl:tJ ops k=true):k≤ops.size:=by
 unfold tJ at hl
 rw[Z0]at hl
 exact Z7 hl.1
theorem tL{ops:Array Oper}{p:Nat→Bool}{i:Nat}:i∈ew ops p↔∃ h:i<ops.size,p i=false∧∀ e∈ops[i].after,Region.binds .any e=true→p e.on=true:=by
 unfold ew
 rw[Ze,Y6]
 constructor
 ·rintro⟨h,h2⟩
  rw[Z0,ZL h]at h2
  simp only[Zh,Zx,ZE]at h2
  grind
 grind
theorem ahm{ops:Array Oper}{k:Nat}(hf:xG ops=true)(hl:tJ ops k=true):∀ (d m fuel t:Nat) (q:Nat→Bool),ops.size-m=d→k≤m→d≤fuel→(∀ i,q i=(Nat.blt i m || !Nat.blt i ops.size))→m≤ops.size→jd ops fuel t q=List.range' m d:=by
 intro d
 induction d with
 |zero=>
  intro m fuel t q hd _ _ hq hm
  have hr:ew ops q=[]:=by
   rw[List.eq_nil_iff_forall_not_mem]
   intro i hi
   obtain⟨h,h1,_⟩:=tL.1 hi
   grind
  cases fuel with
  |zero=>rfl
  |succ fuel=>simp[jd,hr]
 |succ d ih=>
  intro m fuel t q hd hk x7 hq hm
  cases fuel with
  |zero=>omega
  |succ fuel=>
   have QW:m<ops.size:=by omega
   have s6:Nat.blt m m=false:=by cases hb:Nat.blt m m with|false=>rfl|true=>simp_all
   have Qo:Nat.blt m ops.size=true:=by simp_all
   have hr:ew ops q=[m]:=by
    have cj:∀ i,i∈ew ops q↔i=m:=fun i=>by
     rw[tL]
     constructor
     ·rintro⟨h,h1,h2⟩
      rcases Yu i m with h3|h3|h3
      ·rw[hq]at h1
       have:Nat.blt i m=true:=by rw[Yd];grind
       grind
      ·exact h3
      ·obtain⟨e,he,hb,pL⟩:=R8 hl h (by omega) h3
       have:=h2 e he hb
       rw[pL,hq,s6,Qo]at this;cases this
     ·rintro rfl
      refine⟨QW,by rw[hq,s6,Qo];rfl,fun e he hb=> ?_⟩
      have:=DK hf QW e he hb
      rw[hq]
      have:Nat.blt e.on i=true:=by rw[Yd];exact this
      rw[this];rfl
    have hnd:(ew ops q).Nodup:=List.Pairwise.filter _ List.nodup_range
    match hL:ew ops q,cj,hnd with
    |[],hs,_=>exact absurd ((hs m).2 rfl) (by simp)
    |[x],hs,_=>rw[(hs x).1 (by simp)]
    |x::y::l,hs,hn=>
     have h1:=(hs x).1 (by simp)
     have h2:=(hs y).1 (by simp)
     simp[h1,h2]at hn
   simp only[jd,hr,YU,Nat.mod_one,List.getElem?_cons_zero]
   rw[List.range'_succ,ih (m+1) fuel _ _ (by omega) (by omega) (by omega) (fun i=> ?_) (by omega)]
   rw[hq]
   by_cases h1:i<m
   ·have e1:Nat.blt i m=true:=by rw[Yd];exact h1
    have e2:Nat.blt i (m+1)=true:=by rw[Yd];omega
    rw[e1,e2];rfl
   ·have e1:Nat.blt i m=false:=by cases hb:Nat.blt i m with|false=>rfl|true=>rw[Yd]at hb;omega
    by_cases h2:i=m
    ·subst h2
     have e2:Nat.blt i (i+1)=true:=by rw[Yd];omega
     rw[e2,YB];simp
    ·have e2:Nat.blt i (m+1)=false:=by cases hb:Nat.blt i (m+1)with|false=>rfl|true=>rw[Yd]at hb;omega
     have e3:Nat.beq m i=false:=by cases hb:Nat.beq m i with|false=>rfl|true=>exact absurd (ZB hb).symm h2
     rw[e1,e2,e3];simp
theorem Tl(ops:Array Oper):∀ (fuel t:Nat) (p:Nat→Bool) {i:Nat},i∈jd ops fuel t p→i<ops.size
 |0,_,_,_,h=>by cases h
 |fuel+1,t,p,i,h=>by
  unfold jd at h
  split at h
  ·rename_i j hj
   rcases ZV.1 h with rfl|h
   ·obtain⟨h1,_⟩:=tL.1 (List.mem_of_getElem? hj);grind
   ·exact Tl ops fuel _ _ h
  grind
theorem ahn{ops pre:Array Oper}{k:Nat}(hf:xG ops=true)(hl:tJ ops k=true)(hp:pre.size=k)(he:∀ i (h:i<k) (h':i<ops.size) (xH:i<pre.size),pre[i]=ops[i]):
  ∀ (fuel t:Nat) (p q:Nat→Bool),((List.range k).filter fun i=> !p i).length≤fuel→(∀ i,q i=if i<k then p i else !Nat.blt i ops.size)→jd ops (fuel+(ops.size-k)) t q=jd pre fuel t p++List.range' k (ops.size-k):=by
 have hkn:=af1 hl
 have done:∀ (fuel t:Nat) (p q:Nat→Bool),(∀ i,i<k→p i=true)→(∀ i,q i=if i<k then p i else !Nat.blt i ops.size)→jd ops (fuel+(ops.size-k)) t q=List.range' k (ops.size-k):=fun fuel t p q cV hq=>
  ahm hf hl _ k _ t q rfl (ZR _) (by omega) (fun i=>by
   rw[hq]
   by_cases h:i<k
   ·simp_all
   ·have e1:Nat.blt i k=false:=by cases hb:Nat.blt i k with|false=>rfl|true=>rw[Yd]at hb;omega
    grind) hkn
 intro fuel
 induction fuel with
 |zero=>
  intro t p q hc hq
  have h0:=ZO (Nat.le_zero.1 hc)
  exact done 0 t p q (fun i hi=>by
   simp_all) hq
 |succ fuel ih=>
  intro t p q hc hq
  by_cases cV:∀ i,i<k→p i=true
  ·have hr:ew pre p=[]:=by
    rw[List.eq_nil_iff_forall_not_mem]
    intro i hi
    obtain⟨h,h1,_⟩:=tL.1 hi
    grind
   rw[done (fuel+1) t p q cV hq]
   simp[jd,hr]
  ·obtain⟨i0,oe,Bx⟩:∃ i0,(i0<k∧p i0=false)∧∀ j,j<i0→p j=true:=by
    have:∃ i,i<k∧p i=false:=by
     refine Classical.byContradiction fun hn=>cV fun i hi=> ?_
     cases hpi:p i with
     |true=>rfl
     |false=>exact absurd ⟨i,hi,hpi⟩ hn
    obtain⟨n,hn⟩:=this
    induction n using Nat.strongRecOn with
    |ind n ihn=>
     by_cases h:∃ j,j<n∧p j=false
     ·obtain⟨j,hj,Jo⟩:=h;exact ihn j hj ⟨by omega,Jo⟩
     ·refine⟨n,hn,fun j hj=> ?_⟩
      cases Jo:p j with
      |true=>rfl
      |false=>exact absurd ⟨j,hj,Jo⟩ h
   have BD:∀ j,j<k→q j=p j:=fun j hj=>by rw[hq,Z8 hj]
   have hr:ew ops q=ew pre p:=by
    have ef:∀ i,i∈ew ops q↔i∈ew pre p:=fun i=>by
     rw[tL,tL]
     constructor
     ·rintro⟨h,h1,h2⟩
      by_cases lR:i<k
      ·refine⟨by omega,by rw[← BD i lR];exact h1,fun e oc hb=> ?_⟩
       rw[he i lR h (by omega)]at oc
       have h3:=DK hf h e oc hb
       rw[← BD _ (by omega)];exact h2 e oc hb
      ·obtain⟨e,oc,hb,pL⟩:=R8 hl h (by omega) (show i0<i by omega)
       have:=h2 e oc hb
       rw[pL,BD i0 oe.1,oe.2]at this;cases this
     ·rintro⟨h,h1,h2⟩
      have lR:i<k:=by omega
      refine⟨by omega,by rw[BD i lR];exact h1,fun e oc hb=> ?_⟩
      have aeJ:e∈pre[i].after:=by rw[he i lR (by omega) h];exact oc
      have h3:=DK hf (show i<ops.size by omega) e oc hb
      rw[BD _ (by omega)];exact h2 e aeJ hb
    have e1:ew ops q=(List.range k).filter (fun i=>decide (i∈ew pre p)):=by
     unfold ew at ef ⊢
     have e2:List.range ops.size=List.range k++List.range' k (ops.size-k):=by
      have h:= @List.range'_append_1 0 k (ops.size-k)
      rw[Zc,show k+(ops.size-k)=ops.size by omega]at h
      rw[X0,X0,← h]
     rw[e2,List.filter_append]
     have e3:(List.range' k (ops.size-k)).filter (fun i=> !q i && ((ops[i]?).map (·.after.all fun e=> !Region.binds .any e || q e.on)).getD false)=[]:=by
      rw[X4]
      intro i hi gO
      have h1:=(ef i).1 (Ze.2 ⟨by rw[e2];exact Zt _ hi,gO⟩)
      have h2:=Y6.1 (Ze.1 h1).1
      have h3:=List.mem_range'.1 hi
      omega
     rw[e3,Zg]
     refine List.filter_congr fun i hi=> ?_
     have h1:=ef i
     rw[Ze,Ze]at h1
     have h2:i∈List.range ops.size:=Y6.2 (by have:=Y6.1 hi;omega)
     have h3:i∈List.range pre.size:=Y6.2 (by have:=Y6.1 hi;omega)
     rw[YF,Zq,Ze]
     constructor
     ·intro h;exact h1.1 ⟨h2,h⟩
     ·intro h;exact(h1.2 h).2
    rw[e1]
    conv=>rhs;unfold ew
    rw[hp]
    refine List.filter_congr fun i hi=> ?_
    rw[YF,Zq]
    unfold ew
    rw[Ze,hp]
    exact⟨fun h=>h.2,fun h=>⟨hi,h⟩⟩
   have aJ:ew pre p≠[]:=fun e=>by
    have:i0∈ew pre p:=tL.2 ⟨by omega,oe.2,fun e oc hb=>by
     rw[he i0 oe.1 (by omega) (by omega)]at oc
     exact Bx _ (DK hf (show i0<ops.size by omega) e oc hb)⟩
    rw[e]at this;cases this
   have hlen:0<(ew pre p).length:=YZ.2 aJ
   obtain⟨i,hi⟩:∃ i,(ew pre p)[t % (ew pre p).length]? =some i:=⟨_,Z4 (Nat.mod_lt _ hlen)⟩
   have I6:=List.mem_of_getElem? hi
   obtain⟨h1,h2,_⟩:=tL.1 I6
   rw[show fuel+1+(ops.size-k)=(fuel+(ops.size-k))+1 by omega]
   simp only[jd,hr,hi]
   rw[ZC,ih (t / (ew pre p).length) (fun j=>p j || Nat.beq i j) (fun j=>q j || Nat.beq i j) ?_ (fun j=> ?_)]
   ·have:=Px (fun i=> !p i) (fun j=> !(p j || Nat.beq i j)) (List.range k) (fun x _ hx=>by simp at hx ⊢;exact hx.1) ⟨i,Y6.2 (by omega),by simp[h2],by simp[YB]⟩
    omega
   ·rw[hq]
    by_cases hj:j<k
    ·rw[Z8 hj,Z8 hj]
    ·rw[Z9 hj,Z9 hj]
     have:Nat.beq i j=false:=by cases hb:Nat.beq i j with|false=>rfl|true=>have:=ZB hb;omega
     rw[this,Bool.or_false]
end Go.Sx
