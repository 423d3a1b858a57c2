/-
  The layer Sx, eighth part: every compiled operation is sound; regions; code; functions.
-/
import Derived.Test.YtbihckigennlhaaGreatDoorSxComp5
import Derived.Orders
set_option linter.unusedVariables false
set_option linter.unusedSimpArgs false
set_option linter.unusedSectionVars false
namespace Go.Sx
open Go.RowKit
section
variable {P:Program}[Glob P]{M:Mem}{w0:Base}{w:World}{σ:Store}{K:AV→Store→Prop}{rg:ae}{a:Act}{cfg:Nat→Nat}{d:Option Nat}{E:List PanicEntry→Store→Prop}
structure vC(P:Program)[Glob P](M:Mem)(w0:Base)(w:World)(K:AV→Store→Prop)(E:List PanicEntry→Store→Prop)(o:Oper)(a:Act)(next:Act→World→Prop)(Q:Exit→Act→World→Prop):Prop where
 val:∀ (M':Mem) (x:AV) (σ':Store) (v:Value) (w':World),M.le M'→Inv P M' w0 σ' w'→R M' x v→K x σ'→next (a.put o.dst v) w'
 cC:∀ (M':Mem) (ch:List PanicEntry) (σ':Store) (w':World),M.le M'→Inv P M' w0 σ' w'→E ch σ'→Q (.panic ch) a w'
theorem dj{o:Oper}{next:Act→World→Prop}{Q:Exit→Act→World→Prop}(hg:vC P M w0 w K E o a next Q)(s:Sem Value)(he:execOp a.eval o=(do pure (.value (← s))))(h:aA P M w0 K (s.run P w)):o.wp P a w next Q:=by
 obtain⟨v,w',M',x,σ',hr,hM,hI,hR,hk⟩:=h
 simp only[Oper.wp,he,Sem.run_bind,hr,Result.andThen_ok,Sem.run_pure,Oper.upon]
 exact hg.val M' x σ' v w' hM hI hR hk
theorem Ib{M:Mem}:∀ (xs:List AV) (vs l:List Value),RL M xs vs→wj xs=some l→vs=l
 |[],vs,l,h,e=>by simp[wj]at e;subst e;exact h.sD
 |x::xs,vs,l,h,e=>by
  obtain⟨v,gL,rfl,hx,eE⟩:=h.cE
  unfold wj at e
  split at e
  ·simp_all
  ·rename_i y ys heq
   cases heq
   obtain⟨l',h1,rfl⟩:=ZS.1 e
   rw[hx.ax,Ib xs gL l' eE h1]
  ·cases e
theorem tE{M:Mem}:∀ (xs:List AV) (vs l:List Value),RL M xs vs→km xs=some l→vs=l
 |[],vs,l,h,e=>by simp[km]at e;subst e;exact h.sD
 |x::xs,vs,l,h,e=>by
  obtain⟨v,gL,rfl,hx,eE⟩:=h.cE
  unfold km at e
  split at e
  ·simp_all
  ·rename_i y ys heq
   cases heq
   obtain⟨l',h1,rfl⟩:=ZS.1 e
   rw[hx.ax,tE xs gL l' eE h1]
  ·rename_i tg b o ys heq
   cases heq
   obtain⟨l',h1,rfl⟩:=ZS.1 e
   rw[hx.lX,tE xs gL l' eE h1]
  ·rename_i zs ys heq
   cases heq
   split at e
   ·rename_i cs hc
    obtain⟨l',h1,rfl⟩:=ZS.1 e
    obtain⟨us,rfl,ux⟩:=hx.uO
    rw[Ib zs us cs ux hc,tE xs gL l' eE h1]
   ·cases e
  ·cases e
theorem Ew{f:FuncId}(h:gx P f=true)(args:Array Value)(w:World):(callFunc f args).run P w= .ok (.enter f args) w:=by
 unfold gx at h
 split at h
 ·rename_i fn hf
  simp only[Z3,bne_iff_ne,ne_eq]at h
  obtain⟨c,hb⟩:=Ys.1 h.2
  simp[callFunc,hf,h.1,hb]
 ·cases h
theorem E0{o:Oper}{next:Act→World→Prop}{Q:Exit→Act→World→Prop}{f:FuncId}{as:List AV}{cs:List Value}(hg:vC P M w0 w K E o a next Q)(hI:Inv P M w0 σ w)(hl:RL M as cs)(h:oX P f as σ K E)
  (he:(execOp a.eval o).run P w= .ok (.enter f cs.toArray) w):o.wp P a w next Q:=by
 obtain⟨Qs,hs,h1,h2⟩:=h
 simp only[Oper.wp,he,Oper.upon]
 refine(hs M w0 w cs hI hl).mono fun e w' ⟨M',r,σ',hM,bo,hr,hq⟩=> ?_
 cases r with
 |ret x=>
  cases e with
  |returned v=>exact hg.val M' x σ' v w' hM bo hr (h1 x σ' hq)
  |_=>exact hr.elim
 |cC ch=>
  cases e with
  |panicked B5=>have:B5=ch:=hr;subst this;exact hg.cC M' _ σ' w' hM bo (h2 _ σ' hq)
  |_=>exact hr.elim
theorem j3{o:Oper}{next:Act→World→Prop}{Q:Exit→Act→World→Prop}(hg:vC P M w0 w K E o a next Q)(hI:Inv P M w0 σ w)(args:List Operand)(hl:RL M (aQ rg args) (args.map a.eval)){ti:List TI}(dI:fz P o.op=ti)(h:jF P o.op o.type ti args (aQ rg args) σ K):o.wp P a w next Q:=by
 obtain⟨nx,w',M',x,v,σ',hr,hn,hM,bo,hx,hk⟩:=h dI M w0 w a.eval hI hl
 have hr:(execOp a.eval o).run P w= .ok nx w':=hr
 simp only[Oper.wp,hr,Oper.upon]
 cases nx with
 |value u=>have:v=u:=hn;subst this;exact hg.val M' x σ' v w' hM bo hx hk
 |skip=>have:v=undef:=hn;subst this;exact hg.val M' x σ' undef w' hM bo hx hk
 |_=>exact hn.elim
theorem Sa{o:Oper}{fG:au}(hc:yI P o=some fG)(h:aj P cfg d rg σ K E fG)(hI:Inv P M w0 σ w)(hR:bB M rg a){next:Act→World→Prop}{Q:Exit→Act→World→Prop}(hg:vC P M w0 w K E o a next Q):
  o.wp P a w next Q:=by
 obtain⟨dst,op,ty,pos,after,guard⟩:=o
 unfold yI at hc
 cases op<;>simp only[reduceCtorEq]at hc
 case move x=>cases hc;exact dj hg (pure (a.eval x)) rfl (Mq hI hR h)
 case assign x=>cases hc;exact dj hg (pure (a.eval x)) rfl (Mq hI hR h)
 case pick c x y=>cases hc;exact dj hg (do pure (if ← asBool (a.eval c)then a.eval x else a.eval y)) (by simp[execOp]) (arV hI hR h)
 case alloc e=>
  split at hc
  ·rename_i i hi
   obtain⟨z,hz,rfl⟩:=ZS.1 hc
   exact dj hg _ rfl (arE hi hz hI h)
  ·cases hc
 case box e x=>cases hc;exact dj hg _ rfl (arF hI hR h)
 case build t parts=>
  split at hc
  ·rename_i fs i ht hi
   split at hc
   ·rename_i cw
    split at hc
    ·rename_i z ps hz al
     cases hc
     exact dj hg _ rfl (arG ht hi hz cw al hI hR h)
    ·cases hc
   ·cases hc
  ·cases hc
 case buildSlice t n parts=>
  split at hc
  ·rename_i e ht
   split at hc
   ·rename_i i hi
    split at hc
    ·rename_i z hz
     split at hc
     ·rename_i hp
      cases hc
      exact dj hg _ rfl (arU ht hi hz hp.1 hp.2.1 hI hR h)
     ·cases hc
    ·cases hc
   ·cases hc
  ·cases hc
 case load t x=>
  obtain⟨⟨g,n⟩,ht,rfl⟩:=ZS.1 hc
  exact dj hg _ rfl (arR ht hI hR h)
 case store t x y=>
  obtain⟨⟨g,n⟩,ht,rfl⟩:=ZS.1 hc
  obtain⟨w',σ',hr,bo,hk⟩:=arX ht hI hR h
  simp only[Oper.wp,execOp,Sem.run_bind,hr,Result.andThen_ok,Sem.run_pure,Oper.upon]
  exact hg.val M _ σ' undef w' (Mem.le.refl _) bo (.v _) hk
 case nilCheck x=>
  cases hc
  have hx:=hR.ev x
  simp only[aj]at h
  split at h
  ·rename_i ad he
   rw[he]at hx
   exact dj hg (pure (a.eval x)) (by simp[execOp,hx.ax]) (aA.same hI hx h rfl)
  ·rename_i tg b o he
   rw[he]at hx
   exact dj hg (pure (a.eval x)) (by simp[execOp,hx.lX]) (aA.same hI hx h rfl)
  ·rename_i l he
   rw[he]at hx
   obtain⟨b,off,cs,hv,_⟩:=hx.nw
   exact dj hg (pure (a.eval x)) (by simp[execOp,hv]) (aA.same hI hx h rfl)
  ·rename_i f b c he
   rw[he]at hx
   exact dj hg (pure (a.eval x)) (by simp[execOp,hx.ax]) (aA.same hI hx h rfl)
  ·rename_i f b c he
   rw[he]at hx
   obtain⟨va,vc,hv,_⟩:=hx.K9
   exact dj hg (pure (a.eval x)) (by simp[execOp,hv]) (aA.same hI hx h rfl)
  ·exact h.elim
 case binOp op t x y ty2=>
  have zA:∀ neg,yG P neg t x y=some fG→aA P M w0 K ((do eqGuard (if neg then .neq else .eql) t x y (a.eval x) (a.eval y);binOp (if neg then .neq else .eql) t (a.eval x) (a.eval y):Sem Value).run P w):=by
   intro neg hc
   unfold yG at hc
   split at hc
   ·cases hc;have:=EB (t:=t) hI hR h;cases neg<;>exact this
   ·cases hc;have:=EB (t:=t) hI hR h;cases neg<;>exact this
   ·rename_i fs ht
    split at hc
    ·rename_i hp
     obtain⟨ks,hk,rfl⟩:=ZS.1 hc
     exact arI ht hp.1 hp.2 hk hI hR h
    ·cases hc
   ·rename_i ht;cases hc;exact xS (k:= .bool) ht hI hR h
   ·rename_i e ht;cases hc;exact xS (k:= .slice) ⟨_,ht⟩ hI hR h
   ·rename_i e ht;cases hc;exact xS (k:= .map) ⟨_,_,ht⟩ hI hR h
   ·rename_i e ht;cases hc;exact xS (k:= .func) ⟨_,_,_,ht⟩ hI hR h
   ·rename_i e ht;cases hc;exact xS (k:= .ptr) ⟨_,ht⟩ hI hR h
   ·cases hc
  cases op
  case eql=>
   simp only at hc
   split at hc
   ·rename_i i he;cases hc;exact dj hg _ rfl (zA false he)
   ·cases hc;exact j3 hg hI [x,y] (eV hR _) rfl h
  case neq=>
   simp only at hc
   split at hc
   ·rename_i i he;cases hc;exact dj hg _ rfl (zA true he)
   ·cases hc;exact j3 hg hI [x,y] (eV hR _) rfl h
  all_goals(cases hc;exact dj hg _ rfl (EB (t:=t) hI hR h))
 case unOp op t x=>cases hc;exact dj hg _ rfl (arY hI hR h)
 case convert src atG x=>
  split at hc
  ·rename_i k k' hs hd
   cases hc
   exact dj hg _ rfl (arH hs hd hI hR h)
  ·rename_i hs hd
   cases hc
   have hx:=hR.ev x
   refine dj hg _ rfl ?_
   simp only[aj]at h
   split at h
   ·rename_i s he
    rw[he]at hx
    rw[hx.ax]
    exact aA.same hI (.v _) h (by simp[convert,aV hs,aV hd])
   ·exact h.elim
  ·cases hc;exact j3 hg hI [x] (eV hR _) rfl h
 case makeInterface t x=>
  split at hc
  ·cases hc
  ·rename_i SI aR ht
   cases hc
   refine dj hg (Instr.makeInterface t (a.eval x)) rfl (aA.same hI (.gp t _ _ (hR.ev x)) h ?_)
   cases SI<;>first|exact(aR _ rfl).elim|simp[Instr.makeInterface,aV ht]
  ·cases hc
 case makeFunc fn first captured=>
  cases hc
  simp only[aj]at h
  split at h
  ·rename_i l1 l2 h1 h2
   have e1:=tE _ _ _ (eV hR first.toList) h1
   have e2:=tE _ _ _ (eV hR captured.toList) h2
   refine dj hg (Instr.makeFunc fn (first.map a.eval) (captured.map a.eval)) rfl (aA.same hI (.v _) h ?_)
   have e3:first.map a.eval=l1.toArray:=by apply YX;rw[← e1];simp
   have e4:captured.map a.eval=l2.toArray:=by apply YX;rw[← e2];simp
   simp[Instr.makeFunc,e3,e4]
  ·split at h
   ·rename_i f
    refine dj hg (Instr.makeFunc (.func f) (first.map a.eval) (captured.map a.eval)) rfl (aA.same hI (R.aaE (eV hR first.toList) (eV hR captured.toList)) h ?_)
    simp only[Instr.makeFunc,Sem.run_pure]
    congr 2<;>(apply YX;simp)
   ·exact h.elim
 case slice t x lo hi mx=>
  cases mx with
  |none=>
   simp only at hc
   split at hc
   ·rename_i e ht
    split at hc
    ·rename_i i cz
     cases hc
     exact dj hg _ rfl (arW ht cz hI hR h)
    ·cases hc
   ·cases hc;exact j3 hg hI (x::(lo.toList++hi.toList)) (eV hR _) rfl h
  |some m=>simp at hc
 case fieldAddr t x i=>
  split at hc
  ·rename_i fs ht
   split at hc
   ·rename_i f hf
    split at hc
    ·rename_i k hk
     split at hc
     ·rename_i h0
      cases hc
      exact dj hg _ rfl (arK ht hf hk h0 hI hR h)
     ·cases hc
    ·cases hc
   ·cases hc
  ·cases hc
 case field t x i=>
  split at hc
  ·rename_i fs ht
   split at hc
   ·rename_i f hf
    obtain⟨⟨g,n⟩,wO,rfl⟩:=ZS.1 hc
    exact dj hg _ rfl (arL ht hf wO hI hR h)
   ·cases hc
  ·cases hc
 case indexAddr t x i=>
  split at hc
  ·rename_i e ht
   split at hc
   ·rename_i k hk;cases hc;exact dj hg _ rfl (arM ht hk hI hR h)
   ·cases hc
  ·rename_i n e ht
   split at hc
   ·rename_i k hk;cases hc;exact dj hg _ rfl (arN ht hk hI hR h)
   ·cases hc
  ·cases hc
 case index t x i=>
  split at hc
  ·rename_i ht;cases hc;exact dj hg _ rfl (arO ht hI hR h)
  ·cases hc;exact j3 hg hI [x,i] (eV hR _) rfl h
 case makeMap t r=>
  cases r with
  |none=>cases hc;exact j3 hg hI [] (eV hR _) rfl h
  |some r=>cases hc
 case insert t m k x=>cases hc;exact j3 hg hI [m,k,x] (eV hR _) rfl h
 case mapUpdate t m k x=>cases hc;exact j3 hg hI [m,k,x] (eV hR _) rfl h
 case mapEntry t m k=>cases hc;exact j3 hg hI [m,k] (eV hR _) rfl h
 case entryStore t m k x=>cases hc;exact j3 hg hI [m,k,x] (eV hR _) rfl h
 case lookup t m k ok=>cases hc;exact j3 hg hI [m,k] (eV hR _) rfl h
 case makeSlice t n c=>cases hc;exact j3 hg hI [n,c] (eV hR _) rfl h
 case extract x i=>cases hc;exact dj hg _ rfl (arJ hI hR h)
 case panic x=>
  cases hc
  simp only[aj]at h
  split at h
  ·rename_i t y e
   split at h
   ·rename_i v e2
    have hx:=bB.ev hR x
    rw[e]at hx
    obtain⟨u,hu,hy⟩:=hx.Lb
    have h2:[u]=[v]:=tE [y] [u] [v] (RL.cons hy RL.nil) e2
    have h3:u=v:=by simpa using h2
    subst h3
    have hr:(execOp a.eval ⟨dst,.panic x,ty,pos,after,guard⟩).run P w= .halt (.panic (.iface t u)) w:=by
     simp[execOp,hu,Instr.panic,Sem.run_bind]
    simp only[Oper.wp,hr,Oper.upon]
    exact hg.cC M _ σ w (Mem.le.refl _) hI h
   ·exact h.elim
  ·exact h.elim
 case call c=>
  split at hc
  case h_2=>
   split at hc
   ·cases hc;exact j3 hg hI c.args.toList (eV hR _) rfl h
   ·cases hc
  rename_i atU im
  cases hc
  replace hc:=im
  obtain⟨callee,args,argTypes⟩:=c
  unfold HA at hc
  split at hc
  ·rename_i f gS
   simp only at gS;subst gS
   split at hc
   ·rename_i bI
    cases hc
    refine E0 hg hI (eV hR args.toList) h ?_
    have e:(args.toList.map a.eval).toArray=args.map a.eval:=by apply YX;simp
    simp only[e]
    simp[execOp,resolve,Deferred.ofValue,invoke,Act.eval,Ew bI]
   ·cases hc
  ·rename_i f hnf gS
   simp only at gS;subst gS
   cases hc
   simp only[aj]at h
   split at h
   ·rename_i g b c he
    obtain⟨bI,h⟩:=h
    have hf:=hR.ev f
    rw[he]at hf
    refine E0 hg hI (RL.append (RL.append (RL.exact b.toList) (eV hR args.toList)) (RL.exact c.toList)) h ?_
    simp[execOp,resolve,Deferred.ofValue,invoke,hf.ax,Ew bI]
   ·rename_i g b c he
    obtain⟨bI,h⟩:=h
    have hf:=hR.ev f
    rw[he]at hf
    obtain⟨va,vc,hv,ha,hc⟩:=hf.K9
    refine E0 hg hI (RL.append (RL.append ha (eV hR args.toList)) hc) h ?_
    simp[execOp,resolve,Deferred.ofValue,invoke,hv,Ew bI]
   ·exact h.elim
  ·rename_i gS
   simp only at gS;subst gS
   simp only at hc
   split at hc
   ·rename_i x t hx ot
    have e1:args= #[x]:=by apply YX;simpa using hx
    have e2:argTypes= #[t]:=by apply YX;simpa using ot
    subst e1 e2
    split at hc
    ·rename_i ht;cases hc;exact dj hg (Builtin.len_ #[t] ty #[a.eval x]) (by simp[execOp,resolve,invoke,builtin]) (arQ ht hI hR h)
    ·rename_i e ht;cases hc;exact dj hg (Builtin.len_ #[t] ty #[a.eval x]) (by simp[execOp,resolve,invoke,builtin]) (arP ht hI hR h)
    ·cases hc
   ·cases hc
  ·rename_i gS
   simp only at gS;subst gS
   simp only at hc
   split at hc
   ·rename_i x y t u hx ot
    have e1:args= #[x,y]:=by apply YX;simpa using hx
    have e2:argTypes= #[t,u]:=by apply YX;simpa using ot
    subst e1 e2
    split at hc
    ·rename_i e e' ht hu
     split at hc
     ·rename_i i hi
      split at hc
      ·rename_i z hz
       split at hc
       ·rename_i hp
        cases hc
        exact dj hg (Builtin.append_ #[t,u] ty #[a.eval x,a.eval y]) (by simp[execOp,resolve,invoke,builtin]) (Mo ht (.inl ⟨_,hu⟩) hi hz hp.1 hp.2.1 hp.2.2 hI hR h)
       ·cases hc
      ·cases hc
     ·cases hc
    ·rename_i e ht hu
     split at hc
     ·rename_i i hi
      split at hc
      ·rename_i z hz
       split at hc
       ·rename_i hp
        cases hc
        exact dj hg (Builtin.append_ #[t,u] ty #[a.eval x,a.eval y]) (by simp[execOp,resolve,invoke,builtin]) (Mo ht (.inr hu) hi hz hp.1 hp.2.1 hp.2.2 hI hR h)
       ·cases hc
      ·cases hc
     ·cases hc
    ·cases hc
   ·cases hc
  ·rename_i gS
   simp only at gS;subst gS
   simp only at hc
   split at hc
   ·rename_i x y hx
    have e1:args= #[x,y]:=by apply YX;simpa using hx
    subst e1
    cases hc
    exact dj hg (Builtin.max_ argTypes ty #[a.eval x,a.eval y]) (by simp[execOp,resolve,invoke,builtin]) (arS hI hR h)
   ·cases hc
  ·rename_i gS
   simp only at gS;subst gS
   simp only at hc
   split at hc
   ·rename_i x y hx
    have e1:args= #[x,y]:=by apply YX;simpa using hx
    subst e1
    cases hc
    exact dj hg (Builtin.min_ argTypes ty #[a.eval x,a.eval y]) (by simp[execOp,resolve,invoke,builtin]) (arT hI hR h)
   ·cases hc
  ·cases hc
end
end Go.Sx
namespace Go.Sx
def waits(ops:Array Oper)(i j:Nat):Bool:=((ops[i]?).map fun o=>o.after.any fun e=>Region.binds .any e && Nat.beq e.on j).getD false
def px(ops:Array Oper):Bool:=(List.range ops.size).all fun i=>((ops[i]?).map fun o=>o.after.all fun e=> !Region.binds .any e || Nat.blt e.on i).getD false
def pT(ops:Array Oper)(k:Nat):Bool:=Nat.ble k ops.size && (List.range ops.size).all fun i=>Nat.blt i k || (List.range i).all fun j=>waits ops i j
def dA(ops:Array Oper)(listed:Nat→Bool):List Nat:=
 (List.range ops.size).filter fun i=> !listed i && ((ops[i]?).map (·.after.all fun e=> !Region.binds .any e || listed e.on)).getD false
def gH(ops:Array Oper):Nat→Nat→(Nat→Bool)→List Nat
 |0,_,_=>[]
 |fuel+1,t,listed=>match(dA ops listed)[t % (dA ops listed).length]? with
  |some i=>i::gH ops fuel (t / (dA ops listed).length) fun j=>listed j || Nat.beq i j
  |none=>[]
theorem TY(ops:Array Oper):∀ (fuel t:Nat) (listed:Array Bool) (acc:List Nat) (p:Nat→Bool),listed.size=ops.size→(∀ i,i<ops.size→listed.getD i true=p i∧listed.getD i false=p i)→(∀ i,i<ops.size→∀ o,ops[i]? =some o→∀ e∈o.after,Region.binds .any e=true→e.on<ops.size)→
  Region.linearise.go .any ops fuel t listed acc=acc.reverse++gH ops fuel t p:=by
 intro fuel
 induction fuel with
 |zero=>intro t listed acc p _ _ _;simp[Region.linearise.go,gH]
 |succ fuel ih=>
  intro t listed acc p aT hp he
  have hr:((List.range ops.size).filter fun i=> !listed.getD i true && ((ops[i]?).map (·.after.all fun e=> !Region.binds .any e || listed.getD e.on false)).getD false)=dA ops p:=by
   unfold dA
   refine List.filter_congr fun i hi=> ?_
   have cz:i<ops.size:=Zg.1 hi
   rw[(hp i cz).1]
   congr 1
   have ho:ops[i]? =some ops[i]:=ZQ cz
   rw[ho]
   simp only[Zy,ZI]
   rw[YH,ZN,ZN]
   refine forall_congr' fun e=>forall_congr' fun hm=> ?_
   cases hb:Region.binds .any e with
   |false=>simp
   |true=>rw[(hp e.on (he i cz _ ho e hm hb)).2]
  simp only[Region.linearise.go,gH,hr]
  cases hi:(dA ops p)[t % (dA ops p).length]? with
  |none=>simp
  |some i=>
   simp only
   have C8:i<ops.size:=by
    have:=List.mem_of_getElem? hi
    unfold dA at this
    exact Zg.1 (Y9.1 this).1
   rw[ih (t / (dA ops p).length) (listed.setIfInBounds i true) (i::acc) (fun j=>p j || Nat.beq i j) (by simpa using aT) (fun j hj=> ?_) he]
   ·simp
   ·have h1:=hp j hj
    by_cases e:i=j
    ·subst e
     simp[Z4,ZE,aT,C8,YO]
    ·have e':Nat.beq i j=false:=by
      cases hb:Nat.beq i j with
      |false=>rfl
      |true=>exact absurd (ZM hb) e
     simp only[Z4,ZE,e',Bool.or_false]at h1 ⊢
     simpa[e]using h1
theorem KE(ops:Array Oper)(hf:px ops=true)(t:Nat):Region.linearise .any ops t=gH ops ops.size t fun i=> !Nat.blt i ops.size:=by
 unfold Region.linearise
 rw[TY ops ops.size t _ [] (fun i=> !Nat.blt i ops.size) (by simp) (fun i hi=> ?_) (fun i hi o ho e he hb=> ?_)]
 ·rfl
 ·have:Nat.blt i ops.size=true:=by rw[YR];exact hi
  simp[this,Z4,Array.getElem?_replicate,hi]
 ·unfold px at hf
  have h1:=ZJ.1 hf i (Zg.2 hi)
  rw[ho]at h1
  simp only[Zy,ZI,ZN]at h1
  have h2:=h1 e he
  rw[hb]at h2
  simp only[Bool.not_true,Bool.false_or,YR]at h2
  omega
theorem IE{α:Type}(p q:α→Bool):∀ (l:List α),(∀ x∈l,q x=true→p x=true)→(∃ x∈l,p x=true∧q x=false)→(l.filter q).length+1≤(l.filter p).length
 |[],_,⟨x,hx,_⟩=>by cases hx
 |a::l,h,⟨x,hx,h1,h2⟩=>by
  rcases ZU.1 hx with rfl|hx
  ·rw[Yp,Yp,if_neg (by simp[h2]),if_pos h1,Z8]
   have:(l.filter q).length≤(l.filter p).length:=by
    rw[← List.countP_eq_length_filter,← List.countP_eq_length_filter]
    exact List.countP_mono_left fun y hy hq=>h y (ZX _ hy) hq
   omega
  ·have ih:=IE p q l (fun y hy=>h y (ZX _ hy)) ⟨x,hx,h1,h2⟩
   rw[Yp,Yp]
   have ha:=h a ZR
   split
   ·rename_i hq
    rw[if_pos (ha hq),Z8,Z8];omega
   ·split
    ·rw[Z8];omega
    ·exact ih
theorem yW{ops:Array Oper}(hf:px ops=true){i:Nat}(hi:i<ops.size):∀ e∈ops[i].after,Region.binds .any e=true→e.on<i:=fun e he hb=>by
 unfold px at hf
 have h1:=ZJ.1 hf i (Zg.2 hi)
 rw[ZQ hi]at h1
 simp only[Zy,ZI,ZN]at h1
 have h2:=h1 e he
 rw[hb]at h2
 simpa only[Bool.not_true,Bool.false_or,YR]using h2
theorem Kz{ops:Array Oper}{k:Nat}(hl:pT ops k=true){i j:Nat}(hi:i<ops.size)(hk:k≤i)(hj:j<i):∃ e∈ops[i].after,Region.binds .any e=true∧e.on=j:=by
 unfold pT at hl
 rw[Z3]at hl
 have h1:=ZJ.1 hl.2 i (Zg.2 hi)
 rw[Zk]at h1
 rcases h1 with h1|h1
 ·rw[YR]at h1;omega
 ·have h2:=ZJ.1 h1 j (Zg.2 hj)
  unfold waits at h2
  rw[ZQ hi]at h2
  simp only[Zy,ZI]at h2
  rw[Yh]at h2
  obtain⟨m,hm,h3⟩:=h2
  rw[Z3]at h3
  exact⟨_,YE hm,h3.1,ZM h3.2⟩
theorem aag{ops:Array Oper}{k:Nat}(hl:pT ops k=true):k≤ops.size:=by
 unfold pT at hl
 rw[Z3]at hl
 exact Z9 hl.1
theorem pW{ops:Array Oper}{p:Nat→Bool}{i:Nat}:i∈dA ops p↔∃ h:i<ops.size,p i=false∧∀ e∈ops[i].after,Region.binds .any e=true→p e.on=true:=by
 unfold dA
 rw[Y9,Zg]
 constructor
 ·rintro⟨h,h2⟩
  rw[Z3,ZQ h]at h2
  simp only[Zy,ZI,ZN]at h2
  refine⟨h,by simpa using h2.1,fun e he hb=> ?_⟩
  have:=h2.2 e he
  rw[hb]at this
  simpa using this
 ·rintro⟨h,h1,h2⟩
  refine⟨h,?_⟩
  rw[Z3,ZQ h]
  simp only[Zy,ZI,ZN]
  refine⟨by simpa using h1,fun e he=> ?_⟩
  cases hb:Region.binds .any e with
  |false=>rfl
  |true=>simpa using h2 e he hb
theorem abn{ops:Array Oper}{k:Nat}(hf:px ops=true)(hl:pT ops k=true):∀ (d m fuel t:Nat) (q:Nat→Bool),ops.size-m=d→k≤m→d≤fuel→(∀ i,q i=(Nat.blt i m || !Nat.blt i ops.size))→m≤ops.size→gH ops fuel t q=List.range' m d:=by
 intro d
 induction d with
 |zero=>
  intro m fuel t q hd _ _ hq hm
  have hr:dA ops q=[]:=by
   rw[List.eq_nil_iff_forall_not_mem]
   intro i hi
   obtain⟨h,h1,_⟩:=pW.1 hi
   rw[hq]at h1
   have:Nat.blt i m=true:=by rw[YR];omega
   rw[this]at h1;cases h1
  cases fuel with
  |zero=>rfl
  |succ fuel=>simp[gH,hr]
 |succ d ih=>
  intro m fuel t q hd hk ue hq hm
  cases fuel with
  |zero=>omega
  |succ fuel=>
   have Df:m<ops.size:=by omega
   have tU:Nat.blt m m=false:=by cases hb:Nat.blt m m with|false=>rfl|true=>rw[YR]at hb;omega
   have Jl:Nat.blt m ops.size=true:=by rw[YR];exact Df
   have hr:dA ops q=[m]:=by
    have bO:∀ i,i∈dA ops q↔i=m:=fun i=>by
     rw[pW]
     constructor
     ·rintro⟨h,h1,h2⟩
      rcases YF i m with h3|h3|h3
      ·rw[hq]at h1
       have:Nat.blt i m=true:=by rw[YR];exact h3
       rw[this]at h1;cases h1
      ·exact h3
      ·obtain⟨e,he,hb,mW⟩:=Kz hl h (by omega) h3
       have:=h2 e he hb
       rw[mW,hq,tU,Jl]at this;cases this
     ·rintro rfl
      refine⟨Df,by rw[hq,tU,Jl];rfl,fun e he hb=> ?_⟩
      have:=yW hf Df e he hb
      rw[hq]
      have:Nat.blt e.on i=true:=by rw[YR];exact this
      rw[this];rfl
    have hnd:(dA ops q).Nodup:=List.Pairwise.filter _ List.nodup_range
    match hL:dA ops q,bO,hnd with
    |[],hs,_=>exact absurd ((hs m).2 rfl) (by simp)
    |[x],hs,_=>rw[(hs x).1 (by simp)]
    |x::y::l,hs,hn=>
     have h1:=(hs x).1 (by simp)
     have h2:=(hs y).1 (by simp)
     simp[h1,h2]at hn
   simp only[gH,hr,List.length_singleton,Nat.mod_one,List.getElem?_cons_zero]
   rw[List.range'_succ,ih (m+1) fuel _ _ (by omega) (by omega) (by omega) (fun i=> ?_) (by omega)]
   rw[hq]
   by_cases h1:i<m
   ·have e1:Nat.blt i m=true:=by rw[YR];exact h1
    have e2:Nat.blt i (m+1)=true:=by rw[YR];omega
    rw[e1,e2];rfl
   ·have e1:Nat.blt i m=false:=by cases hb:Nat.blt i m with|false=>rfl|true=>rw[YR]at hb;omega
    by_cases h2:i=m
    ·subst h2
     have e2:Nat.blt i (i+1)=true:=by rw[YR];omega
     rw[e2,YO];simp
    ·have e2:Nat.blt i (m+1)=false:=by cases hb:Nat.blt i (m+1)with|false=>rfl|true=>rw[YR]at hb;omega
     have e3:Nat.beq m i=false:=by cases hb:Nat.beq m i with|false=>rfl|true=>exact absurd (ZM hb).symm h2
     rw[e1,e2,e3];simp
theorem Lv(ops:Array Oper):∀ (fuel t:Nat) (p:Nat→Bool) {i:Nat},i∈gH ops fuel t p→i<ops.size
 |0,_,_,_,h=>by cases h
 |fuel+1,t,p,i,h=>by
  unfold gH at h
  split at h
  ·rename_i j hj
   rcases ZU.1 h with rfl|h
   ·obtain⟨h1,_⟩:=pW.1 (List.mem_of_getElem? hj);exact h1
   ·exact Lv ops fuel _ _ h
  ·cases h
theorem abo{ops pre:Array Oper}{k:Nat}(hf:px ops=true)(hl:pT ops k=true)(hp:pre.size=k)(he:∀ i (h:i<k) (h':i<ops.size) (tK:i<pre.size),pre[i]=ops[i]):
  ∀ (fuel t:Nat) (p q:Nat→Bool),((List.range k).filter fun i=> !p i).length≤fuel→(∀ i,q i=if i<k then p i else !Nat.blt i ops.size)→gH ops (fuel+(ops.size-k)) t q=gH pre fuel t p++List.range' k (ops.size-k):=by
 have Vk:=aag hl
 have done:∀ (fuel t:Nat) (p q:Nat→Bool),(∀ i,i<k→p i=true)→(∀ i,q i=if i<k then p i else !Nat.blt i ops.size)→gH ops (fuel+(ops.size-k)) t q=List.range' k (ops.size-k):=fun fuel t p q cw hq=>
  abn hf hl _ k _ t q rfl (ZK _) (by omega) (fun i=>by
   rw[hq]
   by_cases h:i<k
   ·have e1:Nat.blt i k=true:=by rw[YR];exact h
    rw[if_pos h,cw i h,e1];rfl
   ·have e1:Nat.blt i k=false:=by cases hb:Nat.blt i k with|false=>rfl|true=>rw[YR]at hb;omega
    rw[if_neg h,e1];rfl) Vk
 intro fuel
 induction fuel with
 |zero=>
  intro t p q hc hq
  have h0:=ZO (Nat.le_zero.1 hc)
  exact done 0 t p q (fun i hi=>by
   have:=YB.1 h0 i (Zg.2 hi)
   simpa using this) hq
 |succ fuel ih=>
  intro t p q hc hq
  by_cases cw:∀ i,i<k→p i=true
  ·have hr:dA pre p=[]:=by
    rw[List.eq_nil_iff_forall_not_mem]
    intro i hi
    obtain⟨h,h1,_⟩:=pW.1 hi
    rw[cw i (by omega)]at h1;cases h1
   rw[done (fuel+1) t p q cw hq]
   simp[gH,hr]
  ·obtain⟨i0,wQ,wW⟩:∃ i0,(i0<k∧p i0=false)∧∀ j,j<i0→p j=true:=by
    have:∃ i,i<k∧p i=false:=by
     refine Classical.byContradiction fun hn=>cw fun i hi=> ?_
     cases VJ:p i with
     |true=>rfl
     |false=>exact absurd ⟨i,hi,VJ⟩ hn
    obtain⟨n,hn⟩:=this
    induction n using Nat.strongRecOn with
    |ind n WB=>
     by_cases h:∃ j,j<n∧p j=false
     ·obtain⟨j,hj,Dq⟩:=h;exact WB j hj ⟨by omega,Dq⟩
     ·refine⟨n,hn,fun j hj=> ?_⟩
      cases Dq:p j with
      |true=>rfl
      |false=>exact absurd ⟨j,hj,Dq⟩ h
   have w7:∀ j,j<k→q j=p j:=fun j hj=>by rw[hq,if_pos hj]
   have hr:dA ops q=dA pre p:=by
    have iy:∀ i,i∈dA ops q↔i∈dA pre p:=fun i=>by
     rw[pW,pW]
     constructor
     ·rintro⟨h,h1,h2⟩
      by_cases jM:i<k
      ·refine⟨by omega,by rw[← w7 i jM];exact h1,fun e lF hb=> ?_⟩
       rw[he i jM h (by omega)]at lF
       have h3:=yW hf h e lF hb
       rw[← w7 _ (by omega)];exact h2 e lF hb
      ·obtain⟨e,lF,hb,mW⟩:=Kz hl h (by omega) (show i0<i by omega)
       have:=h2 e lF hb
       rw[mW,w7 i0 wQ.1,wQ.2]at this;cases this
     ·rintro⟨h,h1,h2⟩
      have jM:i<k:=by omega
      refine⟨by omega,by rw[w7 i jM];exact h1,fun e lF hb=> ?_⟩
      have UZ:e∈pre[i].after:=by rw[he i jM (by omega) h];exact lF
      have h3:=yW hf (show i<ops.size by omega) e lF hb
      rw[w7 _ (by omega)];exact h2 e UZ hb
    have e1:dA ops q=(List.range k).filter (fun i=>decide (i∈dA pre p)):=by
     unfold dA at iy ⊢
     have e2:List.range ops.size=List.range k++List.range' k (ops.size-k):=by
      have h:= @List.range'_append_1 0 k (ops.size-k)
      rw[Y8,show k+(ops.size-k)=ops.size by omega]at h
      rw[Yf,Yf,← h]
     rw[e2,List.filter_append]
     have e3:(List.range' k (ops.size-k)).filter (fun i=> !q i && ((ops[i]?).map (·.after.all fun e=> !Region.binds .any e || q e.on)).getD false)=[]:=by
      rw[YB]
      intro i hi im
      have h1:=(iy i).1 (Y9.2 ⟨by rw[e2];exact Zp _ hi,im⟩)
      have h2:=Zg.1 (Y9.1 h1).1
      have h3:=List.mem_range'.1 hi
      omega
     rw[e3,Zx]
     refine List.filter_congr fun i hi=> ?_
     have h1:=iy i
     rw[Y9,Y9]at h1
     have h2:i∈List.range ops.size:=Zg.2 (by have:=Zg.1 hi;omega)
     have h3:i∈List.range pre.size:=Zg.2 (by have:=Zg.1 hi;omega)
     rw[YH,ZG,Y9]
     constructor
     ·intro h;exact h1.1 ⟨h2,h⟩
     ·intro h;exact(h1.2 h).2
    rw[e1]
    conv=>rhs;unfold dA
    rw[hp]
    refine List.filter_congr fun i hi=> ?_
    rw[YH,ZG]
    unfold dA
    rw[Y9,hp]
    exact⟨fun h=>h.2,fun h=>⟨hi,h⟩⟩
   have aR:dA pre p≠[]:=fun e=>by
    have:i0∈dA pre p:=pW.2 ⟨by omega,wQ.2,fun e lF hb=>by
     rw[he i0 wQ.1 (by omega) (by omega)]at lF
     exact wW _ (yW hf (show i0<ops.size by omega) e lF hb)⟩
    rw[e]at this;cases this
   have hlen:0<(dA pre p).length:=YU.2 aR
   obtain⟨i,hi⟩:∃ i,(dA pre p)[t % (dA pre p).length]? =some i:=⟨_,Z1 (Nat.mod_lt _ hlen)⟩
   have C8:=List.mem_of_getElem? hi
   obtain⟨h1,h2,_⟩:=pW.1 C8
   rw[show fuel+1+(ops.size-k)=(fuel+(ops.size-k))+1 by omega]
   simp only[gH,hr,hi]
   rw[ZH,ih (t / (dA pre p).length) (fun j=>p j || Nat.beq i j) (fun j=>q j || Nat.beq i j) ?_ (fun j=> ?_)]
   ·have:=IE (fun i=> !p i) (fun j=> !(p j || Nat.beq i j)) (List.range k) (fun x _ hx=>by simp at hx ⊢;exact hx.1) ⟨i,Zg.2 (by omega),by simp[h2],by simp[YO]⟩
    omega
   ·rw[hq]
    by_cases hj:j<k
    ·rw[if_pos hj,if_pos hj]
    ·rw[if_neg hj,if_neg hj]
     have:Nat.beq i j=false:=by cases hb:Nat.beq i j with|false=>rfl|true=>have:=ZM hb;omega
     rw[this,Bool.or_false]
end Go.Sx
