/-
  The layer Sx, eighth part: every compiled operation is sound; regions; code; functions.
-/
import Derived.Test.YtbihckigennlhaaGreatDoorSxComp
import Derived.Orders
set_option linter.unusedVariables false
set_option linter.unusedSimpArgs false
set_option linter.unusedSectionVars false
namespace Go.Sx
open Go.RowKit
section
variable {P:Program}[Glob P]{M:Mem}{w0:Base}{w:World}{σ:Store}{K:AV→Store→Prop}{rg:ae}{a:Act}{cfg:Nat→Nat}{d:Option Nat}{E:List PanicEntry→Store→Prop}
structure wY(P:Program)[Glob P](M:Mem)(w0:Base)(w:World)(K:AV→Store→Prop)(E:List PanicEntry→Store→Prop)(o:Oper)(a:Act)(next:Act→World→Prop)(Q:Exit→Act→World→Prop):Prop where
 val:∀ (M':Mem) (x:AV) (σ':Store) (v:Value) (w':World),M.le M'→Inv P M' w0 σ' w'→R M' x v→K x σ'→next (a.put o.dst v) w'
 cL:∀ (M':Mem) (ch:List PanicEntry) (σ':Store) (w':World),M.le M'→Inv P M' w0 σ' w'→E ch σ'→Q (.panic ch) a w'
theorem dy{o:Oper}{next:Act→World→Prop}{Q:Exit→Act→World→Prop}(hg:wY P M w0 w K E o a next Q)(s:Sem Value)(he:execOp a.eval o=(do pure (.value (← s))))(h:aE P M w0 K (s.run P w)):o.wp P a w next Q:=by
 obtain⟨v,w',M',x,σ',hr,hM,hI,hR,hk⟩:=h
 simp only[Oper.wp,he,Sem.run_bind,hr,Result.andThen_ok,Sem.run_pure,Oper.upon]
 exact hg.val M' x σ' v w' hM hI hR hk
theorem J0{M:Mem}:∀ (xs:List AV) (vs l:List Value),RL M xs vs→xH xs=some l→vs=l
 |[],vs,l,h,e=>by simp[xH]at e;subst e;exact h.ub
 |x::xs,vs,l,h,e=>by
  obtain⟨v,iu,rfl,hx,fa⟩:=h.cN
  unfold xH at e
  split at e
  ·simp_all
  ·rename_i y ys heq
   cases heq
   obtain⟨l',h1,rfl⟩:=ZR.1 e
   rw[hx.az,J0 xs iu l' fa h1]
  grind
theorem uV{M:Mem}:∀ (xs:List AV) (vs l:List Value),RL M xs vs→lB xs=some l→vs=l
 |[],vs,l,h,e=>by simp[lB]at e;subst e;exact h.ub
 |x::xs,vs,l,h,e=>by
  obtain⟨v,iu,rfl,hx,fa⟩:=h.cN
  unfold lB at e
  split at e
  ·simp_all
  ·rename_i y ys heq
   cases heq
   obtain⟨l',h1,rfl⟩:=ZR.1 e
   rw[hx.az,uV xs iu l' fa h1]
  ·rename_i tg b o ys heq
   cases heq
   obtain⟨l',h1,rfl⟩:=ZR.1 e
   rw[hx.mQ,uV xs iu l' fa h1]
  ·rename_i zs ys heq
   cases heq
   split at e
   ·rename_i cs hc
    obtain⟨l',h1,rfl⟩:=ZR.1 e
    obtain⟨us,rfl,vy⟩:=hx.vS
    rw[J0 zs us cs vy hc,uV xs iu l' fa h1]
   grind
  grind
theorem Gj{f:FuncId}(h:gV P f=true)(args:Array Value)(w:World):(callFunc f args).run P w= .ok (.enter f args) w:=by
 unfold gV at h
 split at h
 ·rename_i fn hf
  simp at h
  obtain⟨c,hb⟩:=Ym.1 h.2
  simp[callFunc,hf,h.1,hb]
 grind
theorem GX{o:Oper}{next:Act→World→Prop}{Q:Exit→Act→World→Prop}{f:FuncId}{as:List AV}{cs:List Value}(hg:wY P M w0 w K E o a next Q)(hI:Inv P M w0 σ w)(hl:RL M as cs)(h:qd P f as σ K E)
  (he:(execOp a.eval o).run P w= .ok (.enter f cs.toArray) w):o.wp P a w next Q:=by
 obtain⟨Qs,hs,h1,h2⟩:=h
 simp only[Oper.wp,he,Oper.upon]
 refine(hs M w0 w cs hI hl).mono fun e w' ⟨M',r,σ',hM,hI',hr,hq⟩=> ?_
 cases r with
 |ret x=>
  cases e with
  |returned v=>exact hg.val M' x σ' v w' hM hI' hr (h1 x σ' hq)
  |_=>exact hr.elim
 |cL ch=>
  cases e with
  |panicked Dw=>have:Dw=ch:=hr;subst this;exact hg.cL M' _ σ' w' hM hI' (h2 _ σ' hq)
  |_=>exact hr.elim
theorem kV{o:Oper}{next:Act→World→Prop}{Q:Exit→Act→World→Prop}(hg:wY P M w0 w K E o a next Q)(hI:Inv P M w0 σ w)(args:List Operand)(hl:RL M (aU rg args) (args.map a.eval)){ti:List TI}(dR:fW P o.op=ti)(h:kh P o.op o.type ti args (aU rg args) σ K):o.wp P a w next Q:=by
 obtain⟨nx,w',M',x,v,σ',hr,hn,hM,hI',hx,hk⟩:=h dR M w0 w a.eval hI hl
 have hr:(execOp a.eval o).run P w= .ok nx w':=hr
 simp only[Oper.wp,hr,Oper.upon]
 cases nx with
 |value u=>have:v=u:=hn;subst this;exact hg.val M' x σ' v w' hM hI' hx hk
 |skip=>have:v=undef:=hn;subst this;exact hg.val M' x σ' undef w' hM hI' hx hk
 |_=>exact hn.elim
theorem UZ{o:Oper}{gg:aw}(hc:AA P o=some gg)(h:aj P cfg d rg σ K E gg)(hI:Inv P M w0 σ w)(hR:bE M rg a){next:Act→World→Prop}{Q:Exit→Act→World→Prop}(hg:wY P M w0 w K E o a next Q):
  o.wp P a w next Q:=by
 obtain⟨dst,op,ty,pos,after,guard⟩:=o
 unfold AA at hc
 cases op<;>simp only[reduceCtorEq]at hc
 case move x=>cases hc;exact dy hg (pure (a.eval x)) rfl (OG hI hR h)
 case assign x=>cases hc;exact dy hg (pure (a.eval x)) rfl (OG hI hR h)
 case pick c x y=>cases hc;exact dy hg (do pure (if ← asBool (a.eval c)then a.eval x else a.eval y)) (by simp[execOp]) (axL hI hR h)
 case alloc e=>
  split at hc
  ·rename_i i hi
   obtain⟨z,hz,rfl⟩:=ZR.1 hc
   exact dy hg _ rfl (axu hi hz hI h)
  ·cases hc
 case box e x=>cases hc;exact dy hg _ rfl (axv hI hR h)
 case build t parts=>
  split at hc
  ·rename_i fs i ht hi
   split at hc
   ·rename_i aJb
    split at hc
    ·rename_i z ps hz al
     cases hc
     exact dy hg _ rfl (axw ht hi hz aJb al hI hR h)
    ·cases hc
   ·cases hc
  ·cases hc
 case buildSlice t n parts=>
  split at hc
  ·rename_i e ht
   split at hc
   ·rename_i i hi
    split at hc
    ·rename_i z hz
     split at hc
     ·rename_i hp
      cases hc
      exact dy hg _ rfl (axK ht hi hz hp.1 hp.2.1 hI hR h)
     ·cases hc
    ·cases hc
   ·cases hc
  ·cases hc
 case load t x=>
  obtain⟨⟨g,n⟩,ht,rfl⟩:=ZR.1 hc
  exact dy hg _ rfl (axH ht hI hR h)
 case store t x y=>
  obtain⟨⟨g,n⟩,ht,rfl⟩:=ZR.1 hc
  obtain⟨w',σ',hr,hI',hk⟩:=axN ht hI hR h
  simp only[Oper.wp,execOp,Sem.run_bind,hr,Result.andThen_ok,Sem.run_pure,Oper.upon]
  exact hg.val M _ σ' undef w' (Mem.le.refl _) hI' (.v _) hk
 case nilCheck x=>
  cases hc
  have hx:=hR.ev x
  simp only[aj]at h
  split at h
  ·rename_i ad he
   rw[he]at hx
   exact dy hg (pure (a.eval x)) (by simp[execOp,hx.az]) (aE.same hI hx h rfl)
  ·rename_i tg b o he
   rw[he]at hx
   exact dy hg (pure (a.eval x)) (by simp[execOp,hx.mQ]) (aE.same hI hx h rfl)
  ·rename_i l he
   rw[he]at hx
   obtain⟨b,off,cs,hv,_⟩:=hx.ot
   exact dy hg (pure (a.eval x)) (by simp[execOp,hv]) (aE.same hI hx h rfl)
  ·rename_i f b c he
   rw[he]at hx
   exact dy hg (pure (a.eval x)) (by simp[execOp,hx.az]) (aE.same hI hx h rfl)
  ·rename_i f b c he
   rw[he]at hx
   obtain⟨va,vc,hv,_⟩:=hx.Np
   exact dy hg (pure (a.eval x)) (by simp[execOp,hv]) (aE.same hI hx h rfl)
  ·exact h.elim
 case binOp op t x y ty2=>
  have A6:∀ neg,Ay P neg t x y=some gg→aE P M w0 K ((do eqGuard (if neg then .neq else .eql) t x y (a.eval x) (a.eval y);binOp (if neg then .neq else .eql) t (a.eval x) (a.eval y):Sem Value).run P w):=by
   intro neg hc
   unfold Ay at hc
   split at hc
   ·cases hc;have:=Gn (t:=t) hI hR h;cases neg<;>exact this
   ·cases hc;have:=Gn (t:=t) hI hR h;cases neg<;>exact this
   ·rename_i fs ht
    split at hc
    ·rename_i hp
     obtain⟨ks,hk,rfl⟩:=ZR.1 hc
     exact axy ht hp.1 hp.2 hk hI hR h
    ·cases hc
   ·rename_i ht;cases hc;exact y7 (k:= .bool) ht hI hR h
   ·rename_i e ht;cases hc;exact y7 (k:= .slice) ⟨_,ht⟩ hI hR h
   ·rename_i e ht;cases hc;exact y7 (k:= .map) ⟨_,_,ht⟩ hI hR h
   ·rename_i e ht;cases hc;exact y7 (k:= .func) ⟨_,_,_,ht⟩ hI hR h
   ·rename_i e ht;cases hc;exact y7 (k:= .ptr) ⟨_,ht⟩ hI hR h
   ·cases hc
  cases op
  case eql=>
   simp only at hc
   split at hc
   ·rename_i i he;cases hc;exact dy hg _ rfl (A6 false he)
   ·cases hc;exact kV hg hI [x,y] (fw hR _) rfl h
  case neq=>
   simp only at hc
   split at hc
   ·rename_i i he;cases hc;exact dy hg _ rfl (A6 true he)
   ·cases hc;exact kV hg hI [x,y] (fw hR _) rfl h
  all_goals(cases hc;exact dy hg _ rfl (Gn (t:=t) hI hR h))
 case unOp op t x=>cases hc;exact dy hg _ rfl (axO hI hR h)
 case convert src azI x=>
  split at hc
  ·rename_i k k' hs hd
   cases hc
   exact dy hg _ rfl (axx hs hd hI hR h)
  ·rename_i hs hd
   cases hc
   have hx:=hR.ev x
   refine dy hg _ rfl ?_
   simp only[aj]at h
   split at h
   ·rename_i s he
    rw[he]at hx
    rw[hx.az]
    exact aE.same hI (.v _) h (by simp[convert,aY hs,aY hd])
   ·exact h.elim
  ·cases hc;exact kV hg hI [x] (fw hR _) rfl h
 case makeInterface t x=>
  split at hc
  ·cases hc
  ·rename_i Vw aQ ht
   cases hc
   refine dy hg (Instr.makeInterface t (a.eval x)) rfl (aE.same hI (.gM t _ _ (hR.ev x)) h ?_)
   cases Vw<;>first|exact(aQ _ rfl).elim|simp[Instr.makeInterface,aY ht]
  ·cases hc
 case makeFunc fn first captured=>
  cases hc
  simp only[aj]at h
  split at h
  ·rename_i l1 l2 h1 h2
   have e1:=uV _ _ _ (fw hR first.toList) h1
   have e2:=uV _ _ _ (fw hR captured.toList) h2
   refine dy hg (Instr.makeFunc fn (first.map a.eval) (captured.map a.eval)) rfl (aE.same hI (.v _) h ?_)
   have e3:first.map a.eval=l1.toArray:=by apply YP;rw[← e1];simp
   have e4:captured.map a.eval=l2.toArray:=by apply YP;rw[← e2];simp
   simp[Instr.makeFunc,e3,e4]
  ·split at h
   ·rename_i f
    refine dy hg (Instr.makeFunc (.func f) (first.map a.eval) (captured.map a.eval)) rfl (aE.same hI (R.acK (fw hR first.toList) (fw hR captured.toList)) h ?_)
    simp only[Instr.makeFunc,Sem.run_pure]
    congr 2<;>(apply YP;simp)
   ·exact h.elim
 case slice t x lo hi mx=>
  cases mx with
  |none=>
   simp only at hc
   split at hc
   ·rename_i e ht
    split at hc
    ·rename_i i cH
     cases hc
     exact dy hg _ rfl (axM ht cH hI hR h)
    ·cases hc
   ·cases hc;exact kV hg hI (x::(lo.toList++hi.toList)) (fw hR _) rfl h
  |some m=>simp at hc
 case fieldAddr t x i=>
  split at hc
  ·rename_i fs ht
   split at hc
   ·rename_i f hf
    split at hc
    ·rename_i k hk
     split at hc
     ·rename_i h0
      cases hc
      exact dy hg _ rfl (axA ht hf hk h0 hI hR h)
     ·cases hc
    ·cases hc
   ·cases hc
  ·cases hc
 case field t x i=>
  split at hc
  ·rename_i fs ht
   split at hc
   ·rename_i f hf
    obtain⟨⟨g,n⟩,x5,rfl⟩:=ZR.1 hc
    exact dy hg _ rfl (axB ht hf x5 hI hR h)
   ·cases hc
  ·cases hc
 case indexAddr t x i=>
  split at hc
  ·rename_i e ht
   split at hc
   ·rename_i k hk;cases hc;exact dy hg _ rfl (axC ht hk hI hR h)
   ·cases hc
  ·rename_i n e ht
   split at hc
   ·rename_i k hk;cases hc;exact dy hg _ rfl (axD ht hk hI hR h)
   ·cases hc
  ·cases hc
 case index t x i=>
  split at hc
  ·rename_i ht;cases hc;exact dy hg _ rfl (axE ht hI hR h)
  ·cases hc;exact kV hg hI [x,i] (fw hR _) rfl h
 case makeMap t r=>
  cases r with
  |none=>cases hc;exact kV hg hI [] (fw hR _) rfl h
  |some r=>cases hc
 case insert t m k x=>cases hc;exact kV hg hI [m,k,x] (fw hR _) rfl h
 case mapUpdate t m k x=>cases hc;exact kV hg hI [m,k,x] (fw hR _) rfl h
 case mapEntry t m k=>cases hc;exact kV hg hI [m,k] (fw hR _) rfl h
 case entryStore t m k x=>cases hc;exact kV hg hI [m,k,x] (fw hR _) rfl h
 case lookup t m k ok=>cases hc;exact kV hg hI [m,k] (fw hR _) rfl h
 case makeSlice t n c=>cases hc;exact kV hg hI [n,c] (fw hR _) rfl h
 case extract x i=>cases hc;exact dy hg _ rfl (axz hI hR h)
 case panic x=>
  cases hc
  simp only[aj]at h
  split at h
  ·rename_i t y e
   split at h
   ·rename_i v e2
    have hx:=bE.ev hR x
    rw[e]at hx
    obtain⟨u,hu,hy⟩:=hx.Nr
    have h2:[u]=[v]:=uV [y] [u] [v] (RL.cons hy RL.nil) e2
    have h3:u=v:=by simpa using h2
    subst h3
    have hr:(execOp a.eval ⟨dst,.panic x,ty,pos,after,guard⟩).run P w= .halt (.panic (.iface t u)) w:=by
     simp[execOp,hu,Instr.panic,Sem.run_bind]
    simp only[Oper.wp,hr,Oper.upon]
    exact hg.cL M _ σ w (Mem.le.refl _) hI h
   ·exact h.elim
  ·exact h.elim
 case call c=>
  split at hc
  case h_2=>
   split at hc
   ·cases hc;exact kV hg hI c.args.toList (fw hR _) rfl h
   ·cases hc
  rename_i azX iX
  cases hc
  replace hc:=iX
  obtain⟨callee,args,argTypes⟩:=c
  unfold Ju at hc
  split at hc
  ·rename_i f iF
   simp only at iF;subst iF
   split at hc
   ·rename_i bJ
    cases hc
    refine GX hg hI (fw hR args.toList) h ?_
    have e:(args.toList.map a.eval).toArray=args.map a.eval:=by apply YP;simp
    simp only[e]
    simp[execOp,resolve,Deferred.ofValue,invoke,Act.eval,Gj bJ]
   ·cases hc
  ·rename_i f hnf iF
   simp only at iF;subst iF
   cases hc
   simp only[aj]at h
   split at h
   ·rename_i g b c he
    obtain⟨bJ,h⟩:=h
    have hf:=hR.ev f
    rw[he]at hf
    refine GX hg hI (RL.append (RL.append (RL.exact b.toList) (fw hR args.toList)) (RL.exact c.toList)) h ?_
    simp[execOp,resolve,Deferred.ofValue,invoke,hf.az,Gj bJ]
   ·rename_i g b c he
    obtain⟨bJ,h⟩:=h
    have hf:=hR.ev f
    rw[he]at hf
    obtain⟨va,vc,hv,ha,hc⟩:=hf.Np
    refine GX hg hI (RL.append (RL.append ha (fw hR args.toList)) hc) h ?_
    simp[execOp,resolve,Deferred.ofValue,invoke,hv,Gj bJ]
   ·exact h.elim
  ·rename_i iF
   simp only at iF;subst iF
   simp only at hc
   split at hc
   ·rename_i x t hx pk
    have e1:args= #[x]:=by apply YP;simpa using hx
    have e2:argTypes= #[t]:=by apply YP;simpa using pk
    subst e1 e2
    split at hc
    ·rename_i ht;cases hc;exact dy hg (Builtin.len_ #[t] ty #[a.eval x]) (by simp[execOp,resolve,invoke,builtin]) (axG ht hI hR h)
    ·rename_i e ht;cases hc;exact dy hg (Builtin.len_ #[t] ty #[a.eval x]) (by simp[execOp,resolve,invoke,builtin]) (axF ht hI hR h)
    ·cases hc
   ·cases hc
  ·rename_i iF
   simp only at iF;subst iF
   simp only at hc
   split at hc
   ·rename_i x y t u hx pk
    have e1:args= #[x,y]:=by apply YP;simpa using hx
    have e2:argTypes= #[t,u]:=by apply YP;simpa using pk
    subst e1 e2
    split at hc
    ·rename_i e e' ht hu
     split at hc
     ·rename_i i hi
      split at hc
      ·rename_i z hz
       split at hc
       ·rename_i hp
        cases hc
        exact dy hg (Builtin.append_ #[t,u] ty #[a.eval x,a.eval y]) (by simp[execOp,resolve,invoke,builtin]) (OD ht (.inl ⟨_,hu⟩) hi hz hp.1 hp.2.1 hp.2.2 hI hR h)
       ·cases hc
      ·cases hc
     ·cases hc
    ·rename_i e ht hu
     split at hc
     ·rename_i i hi
      split at hc
      ·rename_i z hz
       split at hc
       ·rename_i hp
        cases hc
        exact dy hg (Builtin.append_ #[t,u] ty #[a.eval x,a.eval y]) (by simp[execOp,resolve,invoke,builtin]) (OD ht (.inr hu) hi hz hp.1 hp.2.1 hp.2.2 hI hR h)
       ·cases hc
      ·cases hc
     ·cases hc
    ·cases hc
   ·cases hc
  ·rename_i iF
   simp only at iF;subst iF
   simp only at hc
   split at hc
   ·rename_i x y hx
    have e1:args= #[x,y]:=by apply YP;simpa using hx
    subst e1
    cases hc
    exact dy hg (Builtin.max_ argTypes ty #[a.eval x,a.eval y]) (by simp[execOp,resolve,invoke,builtin]) (axI hI hR h)
   ·cases hc
  ·rename_i iF
   simp only at iF;subst iF
   simp only at hc
   split at hc
   ·rename_i x y hx
    have e1:args= #[x,y]:=by apply YP;simpa using hx
    subst e1
    cases hc
    exact dy hg (Builtin.min_ argTypes ty #[a.eval x,a.eval y]) (by simp[execOp,resolve,invoke,builtin]) (axJ hI hR h)
   ·cases hc
  ·cases hc
end
end Go.Sx
namespace Go.Sx
def waits(ops:Array Oper)(i j:Nat):Bool:=((ops[i]?).map fun o=>o.after.any fun e=>Region.binds .any e && Nat.beq e.on j).getD false
def qy(ops:Array Oper):Bool:=(List.range ops.size).all fun i=>((ops[i]?).map fun o=>o.after.all fun e=> !Region.binds .any e || Nat.blt e.on i).getD false
def qV(ops:Array Oper)(k:Nat):Bool:=Nat.ble k ops.size && (List.range ops.size).all fun i=>Nat.blt i k || (List.range i).all fun j=>waits ops i j
def dK(ops:Array Oper)(listed:Nat→Bool):List Nat:=
 (List.range ops.size).filter fun i=> !listed i && ((ops[i]?).map (·.after.all fun e=> !Region.binds .any e || listed e.on)).getD false
def ig(ops:Array Oper):Nat→Nat→(Nat→Bool)→List Nat
 |0,_,_=>[]
 |fuel+1,t,listed=>match(dK ops listed)[t % (dK ops listed).length]? with
  |some i=>i::ig ops fuel (t / (dK ops listed).length) fun j=>listed j || Nat.beq i j
  |none=>[]
theorem WN(ops:Array Oper):∀ (fuel t:Nat) (listed:Array Bool) (acc:List Nat) (p:Nat→Bool),listed.size=ops.size→(∀ i,i<ops.size→listed.getD i true=p i∧listed.getD i false=p i)→(∀ i,i<ops.size→∀ o,ops[i]? =some o→∀ e∈o.after,Region.binds .any e=true→e.on<ops.size)→
  Region.linearise.go .any ops fuel t listed acc=acc.reverse++ig ops fuel t p:=by
 intro fuel
 induction fuel with
 |zero=>intro t listed acc p _ _ _;simp[Region.linearise.go,ig]
 |succ fuel ih=>
  intro t listed acc p hsz hp he
  have hr:((List.range ops.size).filter fun i=> !listed.getD i true && ((ops[i]?).map (·.after.all fun e=> !Region.binds .any e || listed.getD e.on false)).getD false)=dK ops p:=by
   unfold dK
   refine List.filter_congr fun i hi=> ?_
   have cH:i<ops.size:=Y5.1 hi
   rw[(hp i cH).1]
   congr 1
   have ho:ops[i]? =some ops[i]:=ZQ cH
   rw[ho]
   simp only[Zu,ZE]
   grind
  simp only[Region.linearise.go,ig,hr]
  cases hi:(dK ops p)[t % (dK ops p).length]? with
  |none=>simp
  |some i=>
   simp only
   have ED:i<ops.size:=by
    have:=List.mem_of_getElem? hi
    unfold dK at this
    exact Y5.1 (YZ.1 this).1
   rw[ih (t / (dK ops p).length) (listed.setIfInBounds i true) (i::acc) (fun j=>p j || Nat.beq i j) (by simpa using hsz) (fun j hj=> ?_) he]
   ·simp
   ·have h1:=hp j hj
    by_cases e:i=j
    ·subst e
     simp[Z2,Zz,hsz,ED,YJ]
    ·have e':Nat.beq i j=false:=by
      cases hb:Nat.beq i j with
      |false=>rfl
      |true=>exact absurd (ZL hb) e
     simp only[Z2,Zz,e',Bool.or_false]at h1 ⊢
     simpa[e]using h1
theorem ML(ops:Array Oper)(hf:qy ops=true)(t:Nat):Region.linearise .any ops t=ig ops ops.size t fun i=> !Nat.blt i ops.size:=by
 unfold Region.linearise
 rw[WN ops ops.size t _ [] (fun i=> !Nat.blt i ops.size) (by simp) (fun i hi=> ?_) (fun i hi o ho e he hb=> ?_)]
 ·rfl
 ·simp_all
 ·have h1:=ZF.1 hf i (Y5.2 hi)
  rw[ho]at h1
  simp only[Zu,ZE,ZM]at h1
  have h2:=h1 e he
  rw[hb]at h2
  simp at h2
  omega
theorem Kp{α:Type}(p q:α→Bool):∀ (l:List α),(∀ x∈l,q x=true→p x=true)→(∃ x∈l,p x=true∧q x=false)→(l.filter q).length+1≤(l.filter p).length
 |[],_,⟨x,hx,_⟩=>by cases hx
 |a::l,h,⟨x,hx,h1,h2⟩=>by
  rcases ZV.1 hx with rfl|hx
  ·rw[Yi,Yi,if_neg (by simp[h2]),if_pos h1,Z9]
   have:(l.filter q).length≤(l.filter p).length:=by
    rw[← List.countP_eq_length_filter,← List.countP_eq_length_filter]
    exact List.countP_mono_left fun y hy hq=>h y (ZX _ hy) hq
   omega
  ·have ih:=Kp p q l (fun y hy=>h y (ZX _ hy)) ⟨x,hx,h1,h2⟩
   grind
theorem AW{ops:Array Oper}(hf:qy ops=true){i:Nat}(hi:i<ops.size):∀ e∈ops[i].after,Region.binds .any e=true→e.on<i:=fun e he hb=>by
 have h1:=ZF.1 hf i (Y5.2 hi)
 rw[ZQ hi]at h1
 simp only[Zu,ZE,ZM]at h1
 have h2:=h1 e he
 simp_all
theorem MB{ops:Array Oper}{k:Nat}(hl:qV ops k=true){i j:Nat}(hi:i<ops.size)(hk:k≤i)(hj:j<i):∃ e∈ops[i].after,Region.binds .any e=true∧e.on=j:=by
 unfold qV at hl
 rw[Z0]at hl
 have h1:=ZF.1 hl.2 i (Y5.2 hi)
 rw[Zl]at h1
 rcases h1 with h1|h1
 ·rw[YM]at h1;omega
 ·have h2:=ZF.1 h1 j (Y5.2 hj)
  unfold waits at h2
  rw[ZQ hi]at h2
  simp only[Zu,ZE]at h2
  rw[X7]at h2
  obtain⟨m,hm,h3⟩:=h2
  rw[Z0]at h3
  exact⟨_,Yz hm,h3.1,ZL h3.2⟩
theorem acj{ops:Array Oper}{k:Nat}(hl:qV ops k=true):k≤ops.size:=by
 unfold qV at hl
 rw[Z0]at hl
 exact Z8 hl.1
theorem qX{ops:Array Oper}{p:Nat→Bool}{i:Nat}:i∈dK ops p↔∃ h:i<ops.size,p i=false∧∀ e∈ops[i].after,Region.binds .any e=true→p e.on=true:=by
 unfold dK
 rw[YZ,Y5]
 constructor
 ·rintro⟨h,h2⟩
  rw[Z0,ZQ h]at h2
  simp only[Zu,ZE,ZM]at h2
  grind
 grind
theorem ads{ops:Array Oper}{k:Nat}(hf:qy ops=true)(hl:qV ops k=true):∀ (d m fuel t:Nat) (q:Nat→Bool),ops.size-m=d→k≤m→d≤fuel→(∀ i,q i=(Nat.blt i m || !Nat.blt i ops.size))→m≤ops.size→ig ops fuel t q=List.range' m d:=by
 intro d
 induction d with
 |zero=>
  intro m fuel t q hd _ _ hq hm
  have hr:dK ops q=[]:=by
   rw[List.eq_nil_iff_forall_not_mem]
   intro i hi
   obtain⟨h,h1,_⟩:=qX.1 hi
   grind
  cases fuel with
  |zero=>rfl
  |succ fuel=>simp[ig,hr]
 |succ d ih=>
  intro m fuel t q hd hk vj hq hm
  cases fuel with
  |zero=>omega
  |succ fuel=>
   have EL:m<ops.size:=by omega
   have hbm:Nat.blt m m=false:=by cases hb:Nat.blt m m with|false=>rfl|true=>simp_all
   have K2:Nat.blt m ops.size=true:=by simp_all
   have hr:dK ops q=[m]:=by
    have bO:∀ i,i∈dK ops q↔i=m:=fun i=>by
     rw[qX]
     constructor
     ·rintro⟨h,h1,h2⟩
      rcases YB i m with h3|h3|h3
      ·rw[hq]at h1
       have:Nat.blt i m=true:=by rw[YM];grind
       grind
      ·exact h3
      ·obtain⟨e,he,hb,nU⟩:=MB hl h (by omega) h3
       have:=h2 e he hb
       rw[nU,hq,hbm,K2]at this;cases this
     ·rintro rfl
      refine⟨EL,by rw[hq,hbm,K2];rfl,fun e he hb=> ?_⟩
      have:=AW hf EL e he hb
      rw[hq]
      have:Nat.blt e.on i=true:=by rw[YM];exact this
      rw[this];rfl
    have hnd:(dK ops q).Nodup:=List.Pairwise.filter _ List.nodup_range
    match hL:dK ops q,bO,hnd with
    |[],hs,_=>exact absurd ((hs m).2 rfl) (by simp)
    |[x],hs,_=>rw[(hs x).1 (by simp)]
    |x::y::l,hs,hn=>
     have h1:=(hs x).1 (by simp)
     have h2:=(hs y).1 (by simp)
     simp[h1,h2]at hn
   simp only[ig,hr,List.length_singleton,Nat.mod_one,List.getElem?_cons_zero]
   rw[List.range'_succ,ih (m+1) fuel _ _ (by omega) (by omega) (by omega) (fun i=> ?_) (by omega)]
   rw[hq]
   by_cases h1:i<m
   ·have e1:Nat.blt i m=true:=by rw[YM];exact h1
    have e2:Nat.blt i (m+1)=true:=by rw[YM];omega
    rw[e1,e2];rfl
   ·have e1:Nat.blt i m=false:=by cases hb:Nat.blt i m with|false=>rfl|true=>rw[YM]at hb;omega
    by_cases h2:i=m
    ·subst h2
     have e2:Nat.blt i (i+1)=true:=by rw[YM];omega
     rw[e2,YJ];simp
    ·have e2:Nat.blt i (m+1)=false:=by cases hb:Nat.blt i (m+1)with|false=>rfl|true=>rw[YM]at hb;omega
     have e3:Nat.beq m i=false:=by cases hb:Nat.beq m i with|false=>rfl|true=>exact absurd (ZL hb).symm h2
     rw[e1,e2,e3];simp
theorem NL(ops:Array Oper):∀ (fuel t:Nat) (p:Nat→Bool) {i:Nat},i∈ig ops fuel t p→i<ops.size
 |0,_,_,_,h=>by cases h
 |fuel+1,t,p,i,h=>by
  unfold ig at h
  split at h
  ·rename_i j hj
   rcases ZV.1 h with rfl|h
   ·obtain⟨h1,_⟩:=qX.1 (List.mem_of_getElem? hj);grind
   ·exact NL ops fuel _ _ h
  grind
theorem adt{ops pre:Array Oper}{k:Nat}(hf:qy ops=true)(hl:qV ops k=true)(hp:pre.size=k)(he:∀ i (h:i<k) (h':i<ops.size) (uZ:i<pre.size),pre[i]=ops[i]):
  ∀ (fuel t:Nat) (p q:Nat→Bool),((List.range k).filter fun i=> !p i).length≤fuel→(∀ i,q i=if i<k then p i else !Nat.blt i ops.size)→ig ops (fuel+(ops.size-k)) t q=ig pre fuel t p++List.range' k (ops.size-k):=by
 have hkn:=acj hl
 have done:∀ (fuel t:Nat) (p q:Nat→Bool),(∀ i,i<k→p i=true)→(∀ i,q i=if i<k then p i else !Nat.blt i ops.size)→ig ops (fuel+(ops.size-k)) t q=List.range' k (ops.size-k):=fun fuel t p q aJb hq=>
  ads hf hl _ k _ t q rfl (ZI _) (by omega) (fun i=>by
   rw[hq]
   by_cases h:i<k
   ·simp_all
   ·have e1:Nat.blt i k=false:=by cases hb:Nat.blt i k with|false=>rfl|true=>rw[YM]at hb;omega
    grind) hkn
 intro fuel
 induction fuel with
 |zero=>
  intro t p q hc hq
  have h0:=ZO (Nat.le_zero.1 hc)
  exact done 0 t p q (fun i hi=>by
   simp_all) hq
 |succ fuel ih=>
  intro t p q hc hq
  by_cases aJb:∀ i,i<k→p i=true
  ·have hr:dK pre p=[]:=by
    rw[List.eq_nil_iff_forall_not_mem]
    intro i hi
    obtain⟨h,h1,_⟩:=qX.1 hi
    grind
   rw[done (fuel+1) t p q aJb hq]
   simp[ig,hr]
  ·obtain⟨i0,kx,yb⟩:∃ i0,(i0<k∧p i0=false)∧∀ j,j<i0→p j=true:=by
    have:∃ i,i<k∧p i=false:=by
     refine Classical.byContradiction fun hn=>aJb fun i hi=> ?_
     cases hpi:p i with
     |true=>rfl
     |false=>exact absurd ⟨i,hi,hpi⟩ hn
    obtain⟨n,hn⟩:=this
    induction n using Nat.strongRecOn with
    |ind n ihn=>
     by_cases h:∃ j,j<n∧p j=false
     ·obtain⟨j,hj,EV⟩:=h;exact ihn j hj ⟨by omega,EV⟩
     ·refine⟨n,hn,fun j hj=> ?_⟩
      cases EV:p j with
      |true=>rfl
      |false=>exact absurd ⟨j,hj,EV⟩ h
   have yi:∀ j,j<k→q j=p j:=fun j hj=>by rw[hq,if_pos hj]
   have hr:dK ops q=dK pre p:=by
    have fg:∀ i,i∈dK ops q↔i∈dK pre p:=fun i=>by
     rw[qX,qX]
     constructor
     ·rintro⟨h,h1,h2⟩
      by_cases kz:i<k
      ·refine⟨by omega,by rw[← yi i kz];exact h1,fun e mB hb=> ?_⟩
       rw[he i kz h (by omega)]at mB
       have h3:=AW hf h e mB hb
       rw[← yi _ (by omega)];exact h2 e mB hb
      ·obtain⟨e,mB,hb,nU⟩:=MB hl h (by omega) (show i0<i by omega)
       have:=h2 e mB hb
       rw[nU,yi i0 kx.1,kx.2]at this;cases this
     ·rintro⟨h,h1,h2⟩
      have kz:i<k:=by omega
      refine⟨by omega,by rw[yi i kz];exact h1,fun e mB hb=> ?_⟩
      have aac:e∈pre[i].after:=by rw[he i kz (by omega) h];exact mB
      have h3:=AW hf (show i<ops.size by omega) e mB hb
      rw[yi _ (by omega)];exact h2 e aac hb
    have e1:dK ops q=(List.range k).filter (fun i=>decide (i∈dK pre p)):=by
     unfold dK at fg ⊢
     have e2:List.range ops.size=List.range k++List.range' k (ops.size-k):=by
      have h:= @List.range'_append_1 0 k (ops.size-k)
      rw[Zh,show k+(ops.size-k)=ops.size by omega]at h
      rw[X5,X5,← h]
     rw[e2,List.filter_append]
     have e3:(List.range' k (ops.size-k)).filter (fun i=> !q i && ((ops[i]?).map (·.after.all fun e=> !Region.binds .any e || q e.on)).getD false)=[]:=by
      rw[Yv]
      intro i hi iX
      have h1:=(fg i).1 (YZ.2 ⟨by rw[e2];exact Zj _ hi,iX⟩)
      have h2:=Y5.1 (YZ.1 h1).1
      have h3:=List.mem_range'.1 hi
      omega
     rw[e3,Zn]
     refine List.filter_congr fun i hi=> ?_
     have h1:=fg i
     rw[YZ,YZ]at h1
     have h2:i∈List.range ops.size:=Y5.2 (by have:=Y5.1 hi;omega)
     have h3:i∈List.range pre.size:=Y5.2 (by have:=Y5.1 hi;omega)
     rw[YD,ZB,YZ]
     constructor
     ·intro h;exact h1.1 ⟨h2,h⟩
     ·intro h;exact(h1.2 h).2
    rw[e1]
    conv=>rhs;unfold dK
    rw[hp]
    refine List.filter_congr fun i hi=> ?_
    rw[YD,ZB]
    unfold dK
    rw[YZ,hp]
    exact⟨fun h=>h.2,fun h=>⟨hi,h⟩⟩
   have aQ:dK pre p≠[]:=fun e=>by
    have:i0∈dK pre p:=qX.2 ⟨by omega,kx.2,fun e mB hb=>by
     rw[he i0 kx.1 (by omega) (by omega)]at mB
     exact yb _ (AW hf (show i0<ops.size by omega) e mB hb)⟩
    rw[e]at this;cases this
   have hlen:0<(dK pre p).length:=Y1.2 aQ
   obtain⟨i,hi⟩:∃ i,(dK pre p)[t % (dK pre p).length]? =some i:=⟨_,Z6 (Nat.mod_lt _ hlen)⟩
   have ED:=List.mem_of_getElem? hi
   obtain⟨h1,h2,_⟩:=qX.1 ED
   rw[show fuel+1+(ops.size-k)=(fuel+(ops.size-k))+1 by omega]
   simp only[ig,hr,hi]
   rw[ZD,ih (t / (dK pre p).length) (fun j=>p j || Nat.beq i j) (fun j=>q j || Nat.beq i j) ?_ (fun j=> ?_)]
   ·have:=Kp (fun i=> !p i) (fun j=> !(p j || Nat.beq i j)) (List.range k) (fun x _ hx=>by simp at hx ⊢;exact hx.1) ⟨i,Y5.2 (by omega),by simp[h2],by simp[YJ]⟩
    omega
   ·rw[hq]
    by_cases hj:j<k
    ·rw[if_pos hj,if_pos hj]
    ·rw[if_neg hj,if_neg hj]
     have:Nat.beq i j=false:=by cases hb:Nat.beq i j with|false=>rfl|true=>have:=ZL hb;omega
     rw[this,Bool.or_false]
end Go.Sx
