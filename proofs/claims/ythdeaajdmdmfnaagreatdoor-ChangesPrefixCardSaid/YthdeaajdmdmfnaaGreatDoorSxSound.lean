/-
  The layer Sx, eighth part: every compiled operation is sound; regions; code; functions.
-/
import Derived.Test.YthdeaajdmdmfnaaGreatDoorSxComp
import Derived.Orders
set_option linter.unusedVariables false
set_option linter.unusedSimpArgs false
set_option linter.unusedSectionVars false
namespace Go.Sx
open Go.RowKit
section
variable {P:Program}[Glob P]{M:Mem}{w0:Base}{w:World}{σ:Store}{K:AV→Store→Prop}{rg:ag}{a:Act}{cfg:Nat→Nat}{d:Option Nat}{E:List PanicEntry→Store→Prop}
structure yJ(P:Program)[Glob P](M:Mem)(w0:Base)(w:World)(K:AV→Store→Prop)(E:List PanicEntry→Store→Prop)(o:Oper)(a:Act)(next:Act→World→Prop)(Q:Exit→Act→World→Prop):Prop where
 val:∀ (M':Mem) (x:AV) (σ':Store) (v:Value) (w':World),M.le M'→Inv P M' w0 σ' w'→R M' x v→K x σ'→next (a.put o.dst v) w'
 jW:∀ (M':Mem) (ch:List PanicEntry) (σ':Store) (w':World),M.le M'→Inv P M' w0 σ' w'→E ch σ'→Q (.panic ch) a w'
theorem dH{o:Oper}{next:Act→World→Prop}{Q:Exit→Act→World→Prop}(hg:yJ P M w0 w K E o a next Q)(s:Sem Value)(he:execOp a.eval o=(do pure (.value (← s))))(h:aO P M w0 K (s.run P w)):o.wp P a w next Q:=by
 obtain⟨v,w',M',x,σ',hr,hM,hI,hR,hk⟩:=h
 simp only[Oper.wp,he,Sem.run_bind,hr,Result.andThen_ok,Sem.run_pure,Oper.upon]
 exact hg.val M' x σ' v w' hM hI hR hk
theorem M5{M:Mem}:∀ (xs:List AV) (vs l:List Value),RL M xs vs→gS xs=some l→vs=l
 |[],vs,l,h,e=>by simp[gS]at e;subst e;exact h.pX
 |x::xs,vs,l,h,e=>by
  obtain⟨v,vs',rfl,hx,c9⟩:=h.aX
  unfold gS at e
  split at e
  ·simp_all
  ·rename_i y ys heq
   cases heq
   obtain⟨l',h1,rfl⟩:=Z9.1 e
   rw[hx.ay,M5 xs vs' l' c9 h1]
  grind
theorem xa{M:Mem}:∀ (xs:List AV) (vs l:List Value),RL M xs vs→bP xs=some l→vs=l
 |[],vs,l,h,e=>by simp[bP]at e;subst e;exact h.pX
 |x::xs,vs,l,h,e=>by
  obtain⟨v,vs',rfl,hx,c9⟩:=h.aX
  unfold bP at e
  split at e
  ·simp_all
  ·rename_i y ys heq
   cases heq
   obtain⟨l',h1,rfl⟩:=Z9.1 e
   rw[hx.ay,xa xs vs' l' c9 h1]
  ·rename_i tg b o ys heq
   cases heq
   obtain⟨l',h1,rfl⟩:=Z9.1 e
   rw[hx.oH,xa xs vs' l' c9 h1]
  ·rename_i zs ys heq
   cases heq
   split at e
   ·rename_i cs hc
    obtain⟨l',h1,rfl⟩:=Z9.1 e
    obtain⟨us,rfl,Dy⟩:=hx.oG
    rw[M5 zs us cs Dy hc,xa xs vs' l' c9 h1]
   grind
  grind
theorem Kb{f:FuncId}(h:gR P f=true)(args:Array Value)(w:World):(callFunc f args).run P w= .ok (.enter f args) w:=by
 unfold gR at h
 split at h
 ·rename_i fn hf
  simp at h
  obtain⟨c,hb⟩:=X0.1 h.2
  simp[callFunc,hf,h.1,hb]
 grind
theorem KR{o:Oper}{next:Act→World→Prop}{Q:Exit→Act→World→Prop}{f:FuncId}{as:List AV}{cs:List Value}(hg:yJ P M w0 w K E o a next Q)(hI:Inv P M w0 σ w)(hl:RL M as cs)(h:oT P f as σ K E)
  (he:(execOp a.eval o).run P w= .ok (.enter f cs.toArray) w):o.wp P a w next Q:=by
 obtain⟨Qs,hs,h1,h2⟩:=h
 simp only[Oper.wp,he,Oper.upon]
 refine(hs M w0 w cs hI hl).mono fun e w' ⟨M',r,σ',hM,bp,hr,hq⟩=> ?_
 cases r with
 |ret x=>
  cases e with
  |returned v=>exact hg.val M' x σ' v w' hM bp hr (h1 x σ' hq)
  |_=>exact hr.elim
 |jW ch=>
  cases e with
  |panicked F3=>have:F3=ch:=hr;subst this;exact hg.jW M' _ σ' w' hM bp (h2 _ σ' hq)
  |_=>exact hr.elim
theorem lD{o:Oper}{next:Act→World→Prop}{Q:Exit→Act→World→Prop}(hg:yJ P M w0 w K E o a next Q)(hI:Inv P M w0 σ w)(args:List Operand)(hl:RL M (aL rg args) (args.map a.eval)){ti:List TI}(bx:ei P o.op=ti)(h:fC P o.op o.type ti args (aL rg args) σ K):o.wp P a w next Q:=by
 obtain⟨nx,w',M',x,v,σ',hr,hn,hM,bp,hx,hk⟩:=h bx M w0 w a.eval hI hl
 have hr:(execOp a.eval o).run P w= .ok nx w':=hr
 simp only[Oper.wp,hr,Oper.upon]
 cases nx with
 |value u=>have:v=u:=hn;subst this;exact hg.val M' x σ' v w' hM bp hx hk
 |skip=>have:v=undef:=hn;subst this;exact hg.val M' x σ' undef w' hM bp hx hk
 |_=>exact hn.elim
theorem aab{o:Oper}{mg:ax}(hc:Ci P o=some mg)(h:aj P cfg d rg σ K E mg)(hI:Inv P M w0 σ w)(hR:bQ M rg a){next:Act→World→Prop}{Q:Exit→Act→World→Prop}(hg:yJ P M w0 w K E o a next Q):
  o.wp P a w next Q:=by
 obtain⟨dst,op,ty,pos,after,guard⟩:=o
 unfold Ci at hc
 cases op<;>simp only[reduceCtorEq]at hc
 case move x=>cases hc;exact dH hg (pure (a.eval x)) rfl (R7 hI hR h)
 case assign x=>cases hc;exact dH hg (pure (a.eval x)) rfl (R7 hI hR h)
 case pick c x y=>cases hc;exact dH hg (do pure (if ← asBool (a.eval c)then a.eval x else a.eval y)) (by simp[execOp]) (ah4 hI hR h)
 case alloc e=>
  split at hc
  ·rename_i i hi
   obtain⟨z,hz,rfl⟩:=Z9.1 hc
   exact dH hg _ rfl (ahN hi hz hI h)
  ·cases hc
 case box e x=>cases hc;exact dH hg _ rfl (ahO hI hR h)
 case build t parts=>
  split at hc
  ·rename_i fs i ht hi
   split at hc
   ·rename_i cV
    split at hc
    ·rename_i z ps hz hps
     cases hc
     exact dH hg _ rfl (ahP ht hi hz cV hps hI hR h)
    ·cases hc
   ·cases hc
  ·cases hc
 case buildSlice t n parts=>
  split at hc
  ·rename_i e ht
   split at hc
   ·rename_i i hi
    split at hc
    ·rename_i z hz
     split at hc
     ·rename_i hp
      cases hc
      exact dH hg _ rfl (ah3 ht hi hz hp.1 hp.2.1 hI hR h)
     ·cases hc
    ·cases hc
   ·cases hc
  ·cases hc
 case load t x=>
  obtain⟨⟨g,n⟩,ht,rfl⟩:=Z9.1 hc
  exact dH hg _ rfl (ah0 ht hI hR h)
 case store t x y=>
  obtain⟨⟨g,n⟩,ht,rfl⟩:=Z9.1 hc
  obtain⟨w',σ',hr,bp,hk⟩:=ah6 ht hI hR h
  simp only[Oper.wp,execOp,Sem.run_bind,hr,Result.andThen_ok,Sem.run_pure,Oper.upon]
  exact hg.val M _ σ' undef w' (Mem.le.refl _) bp (.v _) hk
 case nilCheck x=>
  cases hc
  have hx:=hR.ev x
  simp only[aj]at h
  split at h
  ·rename_i ad he
   rw[he]at hx
   exact dH hg (pure (a.eval x)) (by simp[execOp,hx.ay]) (aO.same hI hx h rfl)
  ·rename_i tg b o he
   rw[he]at hx
   exact dH hg (pure (a.eval x)) (by simp[execOp,hx.oH]) (aO.same hI hx h rfl)
  ·rename_i l he
   rw[he]at hx
   obtain⟨b,off,cs,hv,_⟩:=hx.tq
   exact dH hg (pure (a.eval x)) (by simp[execOp,hv]) (aO.same hI hx h rfl)
  ·rename_i f b c he
   rw[he]at hx
   exact dH hg (pure (a.eval x)) (by simp[execOp,hx.ay]) (aO.same hI hx h rfl)
  ·rename_i f b c he
   rw[he]at hx
   obtain⟨va,vc,hv,_⟩:=hx.JK
   exact dH hg (pure (a.eval x)) (by simp[execOp,hv]) (aO.same hI hx h rfl)
  ·exact h.elim
 case binOp op t x y ty2=>
  have C7:∀ neg,Cg P neg t x y=some mg→aO P M w0 K ((do eqGuard (if neg then .neq else .eql) t x y (a.eval x) (a.eval y);binOp (if neg then .neq else .eql) t (a.eval x) (a.eval y):Sem Value).run P w):=by
   intro neg hc
   unfold Cg at hc
   split at hc
   ·cases hc;have:=Kh (t:=t) hI hR h;cases neg<;>exact this
   ·cases hc;have:=Kh (t:=t) hI hR h;cases neg<;>exact this
   ·rename_i fs ht
    split at hc
    ·rename_i hp
     obtain⟨ks,hk,rfl⟩:=Z9.1 hc
     exact ahR ht hp.1 hp.2 hk hI hR h
    ·cases hc
   ·rename_i ht;cases hc;exact Bi (k:= .bool) ht hI hR h
   ·rename_i e ht;cases hc;exact Bi (k:= .slice) ⟨_,ht⟩ hI hR h
   ·rename_i e ht;cases hc;exact Bi (k:= .map) ⟨_,_,ht⟩ hI hR h
   ·rename_i e ht;cases hc;exact Bi (k:= .func) ⟨_,_,_,ht⟩ hI hR h
   ·rename_i e ht;cases hc;exact Bi (k:= .ptr) ⟨_,ht⟩ hI hR h
   ·cases hc
  cases op
  case eql=>
   simp only at hc
   split at hc
   ·rename_i i he;cases hc;exact dH hg _ rfl (C7 false he)
   ·cases hc;exact lD hg hI [x,y] (fF hR _) rfl h
  case neq=>
   simp only at hc
   split at hc
   ·rename_i i he;cases hc;exact dH hg _ rfl (C7 true he)
   ·cases hc;exact lD hg hI [x,y] (fF hR _) rfl h
  all_goals(cases hc;exact dH hg _ rfl (Kh (t:=t) hI hR h))
 case unOp op t x=>cases hc;exact dH hg _ rfl (ah7 hI hR h)
 case convert src ajY x=>
  split at hc
  ·rename_i k k' hs hd
   cases hc
   exact dH hg _ rfl (ahQ hs hd hI hR h)
  ·rename_i hs hd
   cases hc
   have hx:=hR.ev x
   refine dH hg _ rfl ?_
   simp only[aj]at h
   split at h
   ·rename_i s he
    rw[he]at hx
    rw[hx.ay]
    exact aO.same hI (.v _) h (by simp[convert,aW hs,aW hd])
   ·exact h.elim
  ·cases hc;exact lD hg hI [x] (fF hR _) rfl h
 case makeInterface t x=>
  split at hc
  ·cases hc
  ·rename_i dsc aE ht
   cases hc
   refine dH hg (Instr.makeInterface t (a.eval x)) rfl (aO.same hI (.dz t _ _ (hR.ev x)) h ?_)
   cases dsc<;>first|exact(aE _ rfl).elim|simp[Instr.makeInterface,aW ht]
  ·cases hc
 case makeFunc fn first captured=>
  cases hc
  simp only[aj]at h
  split at h
  ·rename_i l1 l2 h1 h2
   have e1:=xa _ _ _ (fF hR first.toList) h1
   have e2:=xa _ _ _ (fF hR captured.toList) h2
   refine dH hg (Instr.makeFunc fn (first.map a.eval) (captured.map a.eval)) rfl (aO.same hI (.v _) h ?_)
   have e3:first.map a.eval=l1.toArray:=by apply Yw;rw[← e1];simp
   have e4:captured.map a.eval=l2.toArray:=by apply Yw;rw[← e2];simp
   simp[Instr.makeFunc,e3,e4]
  ·split at h
   ·rename_i f
    refine dH hg (Instr.makeFunc (.func f) (first.map a.eval) (captured.map a.eval)) rfl (aO.same hI (R.aeX (fF hR first.toList) (fF hR captured.toList)) h ?_)
    simp only[Instr.makeFunc,Sem.run_pure]
    congr 2<;>(apply Yw;simp)
   ·exact h.elim
 case slice t x lo hi mx=>
  cases mx with
  |none=>
   simp only at hc
   split at hc
   ·rename_i e ht
    split at hc
    ·rename_i i cD
     cases hc
     exact dH hg _ rfl (ah5 ht cD hI hR h)
    ·cases hc
   ·cases hc;exact lD hg hI (x::(lo.toList++hi.toList)) (fF hR _) rfl h
  |some m=>cases hi with
   |none=>simp at hc
   |some h0=>simp only[ZY]at hc;subst hc;exact lD hg hI (x::(lo.toList++[h0,m])) (fF hR _) rfl h
 case fieldAddr t x i=>
  split at hc
  ·rename_i fs ht
   split at hc
   ·rename_i f hf
    split at hc
    ·rename_i k hk
     split at hc
     ·rename_i h0
      cases hc
      exact dH hg _ rfl (ahT ht hf hk h0 hI hR h)
     ·cases hc
    ·cases hc
   ·cases hc
  ·cases hc
 case field t x i=>
  split at hc
  ·rename_i fs ht
   split at hc
   ·rename_i f hf
    obtain⟨⟨g,n⟩,hgn,rfl⟩:=Z9.1 hc
    exact dH hg _ rfl (ahU ht hf hgn hI hR h)
   ·cases hc
  ·cases hc
 case indexAddr t x i=>
  split at hc
  ·rename_i e ht
   split at hc
   ·rename_i k hk;cases hc;exact dH hg _ rfl (ahV ht hk hI hR h)
   ·cases hc
  ·rename_i n e ht
   split at hc
   ·rename_i k hk;cases hc;exact dH hg _ rfl (ahW ht hk hI hR h)
   ·cases hc
  ·cases hc
 case index t x i=>
  split at hc
  ·rename_i ht;cases hc;exact dH hg _ rfl (ahX ht hI hR h)
  ·cases hc;exact lD hg hI [x,i] (fF hR _) rfl h
 case makeMap t r=>
  cases r with
  |none=>cases hc;exact lD hg hI [] (fF hR _) rfl h
  |some r=>cases hc
 case insert t m k x=>cases hc;exact lD hg hI [m,k,x] (fF hR _) rfl h
 case mapUpdate t m k x=>cases hc;exact lD hg hI [m,k,x] (fF hR _) rfl h
 case mapEntry t m k=>cases hc;exact lD hg hI [m,k] (fF hR _) rfl h
 case entryStore t m k x=>cases hc;exact lD hg hI [m,k,x] (fF hR _) rfl h
 case lookup t m k ok=>cases hc;exact lD hg hI [m,k] (fF hR _) rfl h
 case makeSlice t n c=>cases hc;exact lD hg hI [n,c] (fF hR _) rfl h
 case extract x i=>cases hc;exact dH hg _ rfl (ahS hI hR h)
 case panic x=>
  cases hc
  simp only[aj]at h
  split at h
  ·rename_i t y e
   split at h
   ·rename_i v e2
    have hx:=bQ.ev hR x
    rw[e]at hx
    obtain⟨u,hu,hy⟩:=hx.QT
    have h2:[u]=[v]:=xa [y] [u] [v] (RL.cons hy RL.nil) e2
    have h3:u=v:=by simpa using h2
    subst h3
    have hr:(execOp a.eval ⟨dst,.panic x,ty,pos,after,guard⟩).run P w= .halt (.panic (.iface t u)) w:=by
     simp[execOp,hu,Instr.panic,Sem.run_bind]
    simp only[Oper.wp,hr,Oper.upon]
    exact hg.jW M _ σ w (Mem.le.refl _) hI h
   ·exact h.elim
  ·exact h.elim
 case call c=>
  split at hc
  case h_2=>
   split at hc
   ·cases hc;exact lD hg hI c.args.toList (fF hR _) rfl h
   ·cases hc
  rename_i ake gb
  cases hc
  replace hc:=gb
  obtain⟨callee,args,argTypes⟩:=c
  unfold Mw at hc
  split at hc
  ·rename_i f jn
   simp only at jn;subst jn
   split at hc
   ·rename_i bC
    cases hc
    refine KR hg hI (fF hR args.toList) h ?_
    have e:(args.toList.map a.eval).toArray=args.map a.eval:=by apply Yw;simp
    simp only[e]
    simp[execOp,resolve,Deferred.ofValue,invoke,Act.eval,Kb bC]
   ·cases hc
  ·rename_i f hnf jn
   simp only at jn;subst jn
   cases hc
   simp only[aj]at h
   split at h
   ·rename_i g b c he
    obtain⟨bC,h⟩:=h
    have hf:=hR.ev f
    rw[he]at hf
    refine KR hg hI (RL.append (RL.append (RL.exact b.toList) (fF hR args.toList)) (RL.exact c.toList)) h ?_
    simp[execOp,resolve,Deferred.ofValue,invoke,hf.ay,Kb bC]
   ·rename_i g b c he
    obtain⟨bC,h⟩:=h
    have hf:=hR.ev f
    rw[he]at hf
    obtain⟨va,vc,hv,ha,hc⟩:=hf.JK
    refine KR hg hI (RL.append (RL.append ha (fF hR args.toList)) hc) h ?_
    simp[execOp,resolve,Deferred.ofValue,invoke,hv,Kb bC]
   ·exact h.elim
  ·rename_i jn
   simp only at jn;subst jn
   simp only at hc
   split at hc
   ·rename_i x t hx qG
    have e1:args= #[x]:=by apply Yw;simpa using hx
    have e2:argTypes= #[t]:=by apply Yw;simpa using qG
    subst e1 e2
    split at hc
    ·rename_i ht;cases hc;exact dH hg (Builtin.len_ #[t] ty #[a.eval x]) (by simp[execOp,resolve,invoke,builtin]) (ahZ ht hI hR h)
    ·rename_i e ht;cases hc;exact dH hg (Builtin.len_ #[t] ty #[a.eval x]) (by simp[execOp,resolve,invoke,builtin]) (ahY ht hI hR h)
    ·cases hc
   ·cases hc
  ·rename_i jn
   simp only at jn;subst jn
   simp only at hc
   split at hc
   ·rename_i x y t u hx qG
    have e1:args= #[x,y]:=by apply Yw;simpa using hx
    have e2:argTypes= #[t,u]:=by apply Yw;simpa using qG
    subst e1 e2
    split at hc
    ·rename_i e e' ht hu
     split at hc
     ·rename_i i hi
      split at hc
      ·rename_i z hz
       split at hc
       ·rename_i hp
        cases hc
        exact dH hg (Builtin.append_ #[t,u] ty #[a.eval x,a.eval y]) (by simp[execOp,resolve,invoke,builtin]) (R5 ht (.inl ⟨_,hu⟩) hi hz hp.1 hp.2.1 hp.2.2 hI hR h)
       ·cases hc
      ·cases hc
     ·cases hc
    ·rename_i e ht hu
     split at hc
     ·rename_i i hi
      split at hc
      ·rename_i z hz
       split at hc
       ·rename_i hp
        cases hc
        exact dH hg (Builtin.append_ #[t,u] ty #[a.eval x,a.eval y]) (by simp[execOp,resolve,invoke,builtin]) (R5 ht (.inr hu) hi hz hp.1 hp.2.1 hp.2.2 hI hR h)
       ·cases hc
      ·cases hc
     ·cases hc
    ·cases hc
   ·cases hc
  ·rename_i jn
   simp only at jn;subst jn
   simp only at hc
   split at hc
   ·rename_i x y hx
    have e1:args= #[x,y]:=by apply Yw;simpa using hx
    subst e1
    cases hc
    exact dH hg (Builtin.max_ argTypes ty #[a.eval x,a.eval y]) (by simp[execOp,resolve,invoke,builtin]) (ah1 hI hR h)
   ·cases hc
  ·rename_i jn
   simp only at jn;subst jn
   simp only at hc
   split at hc
   ·rename_i x y hx
    have e1:args= #[x,y]:=by apply Yw;simpa using hx
    subst e1
    cases hc
    exact dH hg (Builtin.min_ argTypes ty #[a.eval x,a.eval y]) (by simp[execOp,resolve,invoke,builtin]) (ah2 hI hR h)
   ·cases hc
  ·cases hc
end
end Go.Sx
namespace Go.Sx
def waits(ops:Array Oper)(i j:Nat):Bool:=((ops[i]?).map fun o=>o.after.toList.any fun e=>Region.binds .any e && Nat.beq e.on j).getD false
def se(ops:Array Oper):Bool:=(List.range ops.size).all fun i=>((ops[i]?).map fun o=>o.after.toList.all fun e=> !Region.binds .any e || Nat.blt e.on i).getD false
def s7(ops:Array Oper)(k:Nat):Bool:=Nat.ble k ops.size && (List.range ops.size).all fun i=>Nat.blt i k || (List.range i).all fun j=>waits ops i j
def dS(ops:Array Oper)(listed:Nat→Bool):List Nat:=
 (List.range ops.size).filter fun i=> !listed i && ((ops[i]?).map (·.after.toList.all fun e=> !Region.binds .any e || listed e.on)).getD false
def iV(ops:Array Oper):Nat→Nat→(Nat→Bool)→List Nat
 |0,_,_=>[]
 |fuel+1,t,listed=>match(dS ops listed)[t % (dS ops listed).length]? with
  |some i=>i::iV ops fuel (t / (dS ops listed).length) fun j=>listed j || Nat.beq i j
  |none=>[]
theorem abB(ops:Array Oper):∀ (fuel t:Nat) (listed:Array Bool) (acc:List Nat) (p:Nat→Bool),listed.size=ops.size→(∀ i,i<ops.size→listed.getD i true=p i∧listed.getD i false=p i)→(∀ i,i<ops.size→∀ o,ops[i]? =some o→∀ e∈o.after,Region.binds .any e=true→e.on<ops.size)→
  Region.linearise.go .any ops fuel t listed acc=acc.reverse++iV ops fuel t p:=by
 intro fuel
 induction fuel with
 |zero=>intro t listed acc p _ _ _;simp[Region.linearise.go,iV]
 |succ fuel ih=>
  intro t listed acc p bg hp he
  have hr:((List.range ops.size).filter fun i=> !listed.getD i true && ((ops[i]?).map (·.after.all fun e=> !Region.binds .any e || listed.getD e.on false)).getD false)=dS ops p:=by
   unfold dS
   simp only[Y1]
   refine List.filter_congr fun i hi=> ?_
   have cD:i<ops.size:=Y2.1 hi
   rw[(hp i cD).1]
   congr 1
   have ho:ops[i]? =some ops[i]:=ZN cD
   rw[ho]
   simp only[ZJ,Zp]
   rw[YN,ZB,ZB]
   refine forall_congr' fun e=>forall_congr' fun hm=> ?_
   cases hb:Region.binds .any e with
   |false=>simp
   |true=>rw[(hp e.on (he i cD _ ho e hm hb)).2]
  simp only[Region.linearise.go,iV,hr]
  cases hi:(dS ops p)[t % (dS ops p).length]? with
  |none=>simp
  |some i=>
   simp only
   have Ir:i<ops.size:=by
    have:=Y3 hi
    unfold dS at this
    exact Y2.1 (Ze.1 this).1
   rw[ih (t / (dS ops p).length) (listed.setIfInBounds i true) (i::acc) (fun j=>p j || Nat.beq i j) (by simpa using bg) (fun j hj=> ?_) he]
   ·simp
   ·have h1:=hp j hj
    by_cases e:i=j
    ·subst e
     simp[ZT,Zk,bg,Ir,YA]
    ·have e':Nat.beq i j=false:=by
      cases hb:Nat.beq i j with
      |false=>rfl
      |true=>exact absurd (Z0 hb) e
     simp only[ZT,Zk,e',Bool.or_false]at h1 ⊢
     simpa[e]using h1
theorem Qm(ops:Array Oper)(hf:se ops=true)(t:Nat):Region.linearise .any ops t=iV ops ops.size t fun i=> !Nat.blt i ops.size:=by
 unfold Region.linearise
 rw[abB ops ops.size t _ [] (fun i=> !Nat.blt i ops.size) (by simp) (fun i hi=> ?_) (fun i hi o ho e he hb=> ?_)]
 ·rfl
 ·have:Nat.blt i ops.size=true:=by rw[YC];exact hi
  simp[this,ZT,Array.getElem?_replicate,hi]
 ·unfold se at hf
  simp only[Y1]at hf
  have h1:=Zz.1 hf i (Y2.2 hi)
  rw[ho]at h1
  simp only[ZJ,Zp,ZB]at h1
  have h2:=h1 e he
  rw[hb]at h2
  simp only[Bool.not_true,Bool.false_or,YC]at h2
  omega
theorem Nr{α:Type}(p q:α→Bool):∀ (l:List α),(∀ x∈l,q x=true→p x=true)→(∃ x∈l,p x=true∧q x=false)→(l.filter q).length+1≤(l.filter p).length
 |[],_,⟨x,hx,_⟩=>by cases hx
 |a::l,h,⟨x,hx,h1,h2⟩=>by
  rcases ZK.1 hx with rfl|hx
  ·rw[List.filter_cons,List.filter_cons,Z7 (by simp[h2]),ZV h1,ZS]
   have:(l.filter q).length≤(l.filter p).length:=by
    rw[← List.countP_eq_length_filter,← List.countP_eq_length_filter]
    exact List.countP_mono_left fun y hy hq=>h y (ZL _ hy) hq
   omega
  ·have ih:=Nr p q l (fun y hy=>h y (ZL _ hy)) ⟨x,hx,h1,h2⟩
   grind
theorem CK{ops:Array Oper}(hf:se ops=true){i:Nat}(hi:i<ops.size):∀ e∈ops[i].after,Region.binds .any e=true→e.on<i:=fun e he hb=>by
 unfold se at hf
 simp only[Y1]at hf
 have h1:=Zz.1 hf i (Y2.2 hi)
 rw[ZN hi]at h1
 simp only[ZJ,Zp,ZB]at h1
 have h2:=h1 e he
 rw[hb]at h2
 simpa only[Bool.not_true,Bool.false_or,YC]using h2
theorem xZ{ops:Array Oper}{k:Nat}(hl:s7 ops k=true){i j:Nat}(hi:i<ops.size)(hk:k≤i)(hj:j<i):∃ e∈ops[i].after,Region.binds .any e=true∧e.on=j:=by
 unfold s7 at hl
 rw[Z8]at hl
 have h1:=Zz.1 hl.2 i (Y2.2 hi)
 rw[YO]at h1
 rcases h1 with h1|h1
 ·rw[YC]at h1;omega
 ·have h2:=Zz.1 h1 j (Y2.2 hj)
  unfold waits at h2
  simp only[XU]at h2
  rw[ZN hi]at h2
  simp only[ZJ,Zp]at h2
  rw[XH]at h2
  obtain⟨m,hm,h3⟩:=h2
  rw[Z8]at h3
  exact⟨_,Yc hm,h3.1,Z0 h3.2⟩
theorem aeA{ops:Array Oper}{k:Nat}(hl:s7 ops k=true):k≤ops.size:=by
 unfold s7 at hl
 rw[Z8]at hl
 exact ZF hl.1
theorem tc{ops:Array Oper}{p:Nat→Bool}{i:Nat}:i∈dS ops p↔∃ h:i<ops.size,p i=false∧∀ e∈ops[i].after,Region.binds .any e=true→p e.on=true:=by
 unfold dS
 simp only[Y1]
 rw[Ze,Y2]
 constructor
 ·rintro⟨h,h2⟩
  rw[Z8,ZN h]at h2
  simp only[ZJ,Zp,ZB]at h2
  refine⟨h,by simpa using h2.1,fun e he hb=> ?_⟩
  have:=h2.2 e he
  rw[hb]at this
  simpa using this
 ·rintro⟨h,h1,h2⟩
  refine⟨h,?_⟩
  rw[Z8,ZN h]
  simp only[ZJ,Zp,ZB]
  refine⟨by simpa using h1,fun e he=> ?_⟩
  cases hb:Region.binds .any e with
  |false=>rfl
  |true=>simpa using h2 e he hb
theorem afz{ops:Array Oper}{k:Nat}(hf:se ops=true)(hl:s7 ops k=true):∀ (d m fuel t:Nat) (q:Nat→Bool),ops.size-m=d→k≤m→d≤fuel→(∀ i,q i=(Nat.blt i m || !Nat.blt i ops.size))→m≤ops.size→iV ops fuel t q=List.range' m d:=by
 intro d
 induction d with
 |zero=>
  intro m fuel t q hd _ _ hq hm
  have hr:dS ops q=[]:=by
   rw[List.eq_nil_iff_forall_not_mem]
   intro i hi
   obtain⟨h,h1,_⟩:=tc.1 hi
   grind
  cases fuel with
  |zero=>rfl
  |succ fuel=>simp[iV,hr]
 |succ d ih=>
  intro m fuel t q hd hk hfu hq hm
  cases fuel with
  |zero=>omega
  |succ fuel=>
   have OL:m<ops.size:=by omega
   have lS:Nat.blt m m=false:=by cases hb:Nat.blt m m with|false=>rfl|true=>simp_all
   have Oe:Nat.blt m ops.size=true:=by simp_all
   have hr:dS ops q=[m]:=by
    have kB:∀ i,i∈dS ops q↔i=m:=fun i=>by
     rw[tc]
     constructor
     ·rintro⟨h,h1,h2⟩
      rcases X4 i m with h3|h3|h3
      ·rw[hq]at h1
       have:Nat.blt i m=true:=by rw[YC];grind
       grind
      ·exact h3
      ·obtain⟨e,he,hb,pB⟩:=xZ hl h (by omega) h3
       have:=h2 e he hb
       rw[pB,hq,lS,Oe]at this;cases this
     ·rintro rfl
      refine⟨OL,by rw[hq,lS,Oe];rfl,fun e he hb=> ?_⟩
      have:=CK hf OL e he hb
      rw[hq]
      have:Nat.blt e.on i=true:=by rw[YC];exact this
      rw[this];rfl
    have hnd:(dS ops q).Nodup:=List.Pairwise.filter _ List.nodup_range
    match hL:dS ops q,kB,hnd with
    |[],hs,_=>exact absurd ((hs m).2 rfl) (by simp)
    |[x],hs,_=>rw[(hs x).1 (by simp)]
    |x::y::l,hs,hn=>
     have h1:=(hs x).1 (by simp)
     have h2:=(hs y).1 (by simp)
     simp[h1,h2]at hn
   simp only[iV,hr,YB,Nat.mod_one,List.getElem?_cons_zero]
   rw[List.range'_succ,ih (m+1) fuel _ _ (by omega) (by omega) (by omega) (fun i=> ?_) (by omega)]
   rw[hq]
   by_cases h1:i<m
   ·have e1:Nat.blt i m=true:=by rw[YC];exact h1
    have e2:Nat.blt i (m+1)=true:=by rw[YC];omega
    rw[e1,e2];rfl
   ·have e1:Nat.blt i m=false:=by cases hb:Nat.blt i m with|false=>rfl|true=>rw[YC]at hb;omega
    by_cases h2:i=m
    ·subst h2
     have e2:Nat.blt i (i+1)=true:=by rw[YC];omega
     rw[e2,YA];simp
    ·have e2:Nat.blt i (m+1)=false:=by cases hb:Nat.blt i (m+1)with|false=>rfl|true=>rw[YC]at hb;omega
     have e3:Nat.beq m i=false:=by cases hb:Nat.beq m i with|false=>rfl|true=>exact absurd (Z0 hb).symm h2
     rw[e1,e2,e3];simp
theorem Rf(ops:Array Oper):∀ (fuel t:Nat) (p:Nat→Bool) {i:Nat},i∈iV ops fuel t p→i<ops.size
 |0,_,_,_,h=>by cases h
 |fuel+1,t,p,i,h=>by
  unfold iV at h
  split at h
  ·rename_i j hj
   rcases ZK.1 h with rfl|h
   ·obtain⟨h1,_⟩:=tc.1 (Y3 hj);grind
   ·exact Rf ops fuel _ _ h
  grind
theorem afA{ops pre:Array Oper}{k:Nat}(hf:se ops=true)(hl:s7 ops k=true)(hp:pre.size=k)(he:∀ i (h:i<k) (h':i<ops.size) (xe:i<pre.size),pre[i]=ops[i]):
  ∀ (fuel t:Nat) (p q:Nat→Bool),((List.range k).filter fun i=> !p i).length≤fuel→(∀ i,q i=if i<k then p i else !Nat.blt i ops.size)→iV ops (fuel+(ops.size-k)) t q=iV pre fuel t p++List.range' k (ops.size-k):=by
 have hkn:=aeA hl
 have done:∀ (fuel t:Nat) (p q:Nat→Bool),(∀ i,i<k→p i=true)→(∀ i,q i=if i<k then p i else !Nat.blt i ops.size)→iV ops (fuel+(ops.size-k)) t q=List.range' k (ops.size-k):=fun fuel t p q cV hq=>
  afz hf hl _ k _ t q rfl (ZX _) (by omega) (fun i=>by
   rw[hq]
   by_cases h:i<k
   ·have e1:Nat.blt i k=true:=by rw[YC];exact h
    rw[ZV h,cV i h,e1];rfl
   ·have e1:Nat.blt i k=false:=by cases hb:Nat.blt i k with|false=>rfl|true=>rw[YC]at hb;omega
    rw[Z7 h,e1];rfl) hkn
 intro fuel
 induction fuel with
 |zero=>
  intro t p q hc hq
  have h0:=Zt (Nat.le_zero.1 hc)
  exact done 0 t p q (fun i hi=>by
   have:=Yl.1 h0 i (Y2.2 hi)
   simpa using this) hq
 |succ fuel ih=>
  intro t p q hc hq
  by_cases cV:∀ i,i<k→p i=true
  ·have hr:dS pre p=[]:=by
    rw[List.eq_nil_iff_forall_not_mem]
    intro i hi
    obtain⟨h,h1,_⟩:=tc.1 hi
    rw[cV i (by omega)]at h1;cases h1
   rw[done (fuel+1) t p q cV hq]
   simp[iV,hr]
  ·obtain⟨i0,eE,IB⟩:∃ i0,(i0<k∧p i0=false)∧∀ j,j<i0→p j=true:=by
    have:∃ i,i<k∧p i=false:=by
     refine Classical.byContradiction fun hn=>cV fun i hi=> ?_
     cases xI:p i with
     |true=>rfl
     |false=>exact absurd ⟨i,hi,xI⟩ hn
    obtain⟨n,hn⟩:=this
    induction n using Nat.strongRecOn with
    |ind n ihn=>
     by_cases h:∃ j,j<n∧p j=false
     ·obtain⟨j,hj,IJ⟩:=h;exact ihn j hj ⟨by omega,IJ⟩
     ·refine⟨n,hn,fun j hj=> ?_⟩
      cases IJ:p j with
      |true=>rfl
      |false=>exact absurd ⟨j,hj,IJ⟩ h
   have Ao:∀ j,j<k→q j=p j:=fun j hj=>by rw[hq,ZV hj]
   have hr:dS ops q=dS pre p:=by
    have fK:∀ i,i∈dS ops q↔i∈dS pre p:=fun i=>by
     rw[tc,tc]
     constructor
     ·rintro⟨h,h1,h2⟩
      by_cases gr:i<k
      ·refine⟨by omega,by rw[← Ao i gr];exact h1,fun e nV hb=> ?_⟩
       rw[he i gr h (by omega)]at nV
       have h3:=CK hf h e nV hb
       rw[← Ao _ (by omega)];exact h2 e nV hb
      ·obtain⟨e,nV,hb,pB⟩:=xZ hl h (by omega) (show i0<i by omega)
       have:=h2 e nV hb
       rw[pB,Ao i0 eE.1,eE.2]at this;cases this
     ·rintro⟨h,h1,h2⟩
      have gr:i<k:=by omega
      refine⟨by omega,by rw[Ao i gr];exact h1,fun e nV hb=> ?_⟩
      have ab6:e∈pre[i].after:=by rw[he i gr (by omega) h];exact nV
      have h3:=CK hf (show i<ops.size by omega) e nV hb
      rw[Ao _ (by omega)];exact h2 e ab6 hb
    have e1:dS ops q=(List.range k).filter (fun i=>decide (i∈dS pre p)):=by
     unfold dS at fK ⊢
     have e2:List.range ops.size=List.range k++List.range' k (ops.size-k):=by
      have h:= @List.range'_append_1 0 k (ops.size-k)
      rw[ZH,show k+(ops.size-k)=ops.size by omega]at h
      rw[XF,XF,← h]
     rw[e2,Xt]
     have e3:(List.range' k (ops.size-k)).filter (fun i=> !q i && ((ops[i]?).map (·.after.toList.all fun e=> !Region.binds .any e || q e.on)).getD false)=[]:=by
      rw[Yl]
      intro i hi gb
      have h1:=(fK i).1 (Ze.2 ⟨by rw[e2];exact Y6 _ hi,gb⟩)
      have h2:=Y2.1 (Ze.1 h1).1
      have h3:=List.mem_range'.1 hi
      omega
     rw[e3,YP]
     refine List.filter_congr fun i hi=> ?_
     have h1:=fK i
     rw[Ze,Ze]at h1
     have h2:i∈List.range ops.size:=Y2.2 (by have:=Y2.1 hi;omega)
     have h3:i∈List.range pre.size:=Y2.2 (by have:=Y2.1 hi;omega)
     rw[YN,ZR,Ze]
     constructor
     ·intro h;exact h1.1 ⟨h2,h⟩
     ·intro h;exact(h1.2 h).2
    rw[e1]
    conv=>rhs;unfold dS
    rw[hp]
    refine List.filter_congr fun i hi=> ?_
    rw[YN,ZR]
    unfold dS
    rw[Ze,hp]
    exact⟨fun h=>h.2,fun h=>⟨hi,h⟩⟩
   have aE:dS pre p≠[]:=fun e=>by
    have:i0∈dS pre p:=tc.2 ⟨by omega,eE.2,fun e nV hb=>by
     rw[he i0 eE.1 (by omega) (by omega)]at nV
     exact IB _ (CK hf (show i0<ops.size by omega) e nV hb)⟩
    rw[e]at this;cases this
   have hlen:0<(dS pre p).length:=XZ.2 aE
   obtain⟨i,hi⟩:∃ i,(dS pre p)[t % (dS pre p).length]? =some i:=⟨_,Z1 (Nat.mod_lt _ hlen)⟩
   have Ir:=Y3 hi
   obtain⟨h1,h2,_⟩:=tc.1 Ir
   rw[show fuel+1+(ops.size-k)=(fuel+(ops.size-k))+1 by omega]
   simp only[iV,hr,hi]
   rw[ZG,ih (t / (dS pre p).length) (fun j=>p j || Nat.beq i j) (fun j=>q j || Nat.beq i j) ?_ (fun j=> ?_)]
   ·have:=Nr (fun i=> !p i) (fun j=> !(p j || Nat.beq i j)) (List.range k) (fun x _ hx=>by simp at hx ⊢;exact hx.1) ⟨i,Y2.2 (by omega),by simp[h2],by simp[YA]⟩
    omega
   ·rw[hq]
    by_cases hj:j<k
    ·rw[ZV hj,ZV hj]
    ·rw[Z7 hj,Z7 hj]
     have:Nat.beq i j=false:=by cases hb:Nat.beq i j with|false=>rfl|true=>have:=Z0 hb;omega
     rw[this,Bool.or_false]
end Go.Sx
