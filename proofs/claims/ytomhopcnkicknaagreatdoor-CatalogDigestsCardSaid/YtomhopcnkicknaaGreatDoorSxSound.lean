/-
  The layer Sx, eighth part: every compiled operation is sound; regions; code; functions.
-/
import Derived.Test.YtomhopcnkicknaaGreatDoorSxComp
import Derived.Orders
set_option linter.unusedVariables false
set_option linter.unusedSimpArgs false
set_option linter.unusedSectionVars false
namespace Go.Sx
open Go.RowKit
section
variable {P:Program}[Glob P]{M:Mem}{w0:Base}{w:World}{σ:Store}{K:AV→Store→Prop}{rg:ah}{a:Act}{cfg:Nat→Nat}{d:Option Nat}{E:List PanicEntry→Store→Prop}
structure xB(P:Program)[Glob P](M:Mem)(w0:Base)(w:World)(K:AV→Store→Prop)(E:List PanicEntry→Store→Prop)(o:Oper)(a:Act)(next:Act→World→Prop)(Q:Exit→Act→World→Prop):Prop where
 val:∀ (M':Mem) (x:AV) (af:Store) (v:Value) (w':World),M.le M'→Inv P M' w0 af w'→R M' x v→K x af→next (a.put o.dst v) w'
 lP:∀ (M':Mem) (ch:List PanicEntry) (af:Store) (w':World),M.le M'→Inv P M' w0 af w'→E ch af→Q (.panic ch) a w'
theorem dC{o:Oper}{next:Act→World→Prop}{Q:Exit→Act→World→Prop}(hg:xB P M w0 w K E o a next Q)(s:Sem Value)(he:execOp a.eval o=(do pure (.value (← s))))(h:aJ P M w0 K (s.run P w)):o.wp P a w next Q:=by
 obtain⟨v,w',M',x,af,hr,hM,hI,hR,hk⟩:=h
 simp only[Oper.wp,he,Sem.run_bind,hr,Result.andThen_ok,Sem.run_pure,Oper.upon]
 exact hg.val M' x af v w' hM hI hR hk
theorem Lv{M:Mem}:∀ (xs:List AV) (vs l:List Value),RL M xs vs→x4 xs=some l→vs=l
 |[],vs,l,h,e=>by simp[x4]at e;subst e;exact h.nR
 |x::xs,vs,l,h,e=>by
  obtain⟨v,kh,rfl,hx,fm⟩:=h.bL
  unfold x4 at e
  split at e
  ·simp_all
  ·rename_i y ys heq
   cases heq
   obtain⟨l',h1,rfl⟩:=ZO.1 e
   rw[hx.aC,Lv xs kh l' fm h1]
  grind
theorem vi{M:Mem}:∀ (xs:List AV) (vs l:List Value),RL M xs vs→mS xs=some l→vs=l
 |[],vs,l,h,e=>by simp[mS]at e;subst e;exact h.nR
 |x::xs,vs,l,h,e=>by
  obtain⟨v,kh,rfl,hx,fm⟩:=h.bL
  unfold mS at e
  split at e
  ·simp_all
  ·rename_i y ys heq
   cases heq
   obtain⟨l',h1,rfl⟩:=ZO.1 e
   rw[hx.aC,vi xs kh l' fm h1]
  ·rename_i tg b o ys heq
   cases heq
   obtain⟨l',h1,rfl⟩:=ZO.1 e
   rw[hx.nI,vi xs kh l' fm h1]
  ·rename_i zs ys heq
   cases heq
   split at e
   ·rename_i cs hc
    obtain⟨l',h1,rfl⟩:=ZO.1 e
    obtain⟨us,rfl,Cu⟩:=hx.rL
    rw[Lv zs us cs Cu hc,vi xs kh l' fm h1]
   grind
  grind
theorem It{f:FuncId}(h:jI P f=true)(args:Array Value)(w:World):(callFunc f args).run P w= .ok (.enter f args) w:=by
 unfold jI at h
 split at h
 ·rename_i fn hf
  simp at h
  obtain⟨c,hb⟩:=YG.1 h.2
  simp[callFunc,hf,h.1,hb]
 grind
theorem I8{o:Oper}{next:Act→World→Prop}{Q:Exit→Act→World→Prop}{f:FuncId}{as:List AV}{cs:List Value}(hg:xB P M w0 w K E o a next Q)(hI:Inv P M w0 σ w)(hl:RL M as cs)(h:qH P f as σ K E)
  (he:(execOp a.eval o).run P w= .ok (.enter f cs.toArray) w):o.wp P a w next Q:=by
 obtain⟨Qs,hs,h1,h2⟩:=h
 simp only[Oper.wp,he,Oper.upon]
 refine(hs M w0 w cs hI hl).mono fun e w' ⟨M',r,af,hM,aS,hr,hq⟩=> ?_
 cases r with
 |ret x=>
  cases e with
  |returned v=>exact hg.val M' x af v w' hM aS hr (h1 x af hq)
  |_=>exact hr.elim
 |lP ch=>
  cases e with
  |panicked EN=>have:EN=ch:=hr;subst this;exact hg.lP M' _ af w' hM aS (h2 _ af hq)
  |_=>exact hr.elim
theorem lZ{o:Oper}{next:Act→World→Prop}{Q:Exit→Act→World→Prop}(hg:xB P M w0 w K E o a next Q)(hI:Inv P M w0 σ w)(args:List Operand)(hl:RL M (bD rg args) (args.map a.eval)){ti:List TI}(db:fq P o.op=ti)(h:jf P o.op o.type ti args (bD rg args) σ K):o.wp P a w next Q:=by
 obtain⟨nx,w',M',x,v,af,hr,hn,hM,aS,hx,hk⟩:=h db M w0 w a.eval hI hl
 have hr:(execOp a.eval o).run P w= .ok nx w':=hr
 simp only[Oper.wp,hr,Oper.upon]
 cases nx with
 |value u=>have:v=u:=hn;subst this;exact hg.val M' x af v w' hM aS hx hk
 |skip=>have:v=undef:=hn;subst this;exact hg.val M' x af undef w' hM aS hx hk
 |_=>exact hn.elim
theorem Xl{o:Oper}{lL:aB}(hc:Bl P o=some lL)(h:ak P cfg d rg σ K E lL)(hI:Inv P M w0 σ w)(hR:bW M rg a){next:Act→World→Prop}{Q:Exit→Act→World→Prop}(hg:xB P M w0 w K E o a next Q):
  o.wp P a w next Q:=by
 obtain⟨dst,op,ty,pos,after,guard⟩:=o
 unfold Bl at hc
 cases op<;>simp only[reduceCtorEq]at hc
 case move x=>cases hc;exact dC hg (pure (a.eval x)) rfl (Qo hI hR h)
 case assign x=>cases hc;exact dC hg (pure (a.eval x)) rfl (Qo hI hR h)
 case pick c x y=>cases hc;exact dC hg (do pure (if ← asBool (a.eval c)then a.eval x else a.eval y)) (by simp[execOp]) (aLm hI hR h)
 case alloc e=>
  split at hc
  ·rename_i i hi
   obtain⟨z,hz,rfl⟩:=ZO.1 hc
   exact dC hg _ rfl (aK5 hi hz hI h)
  ·cases hc
 case box e x=>cases hc;exact dC hg _ rfl (aK6 hI hR h)
 case build t parts=>
  split at hc
  ·rename_i fs i ht hi
   split at hc
   ·rename_i cH
    split at hc
    ·rename_i z ps hz aw
     cases hc
     exact dC hg _ rfl (aK7 ht hi hz cH aw hI hR h)
    ·cases hc
   ·cases hc
  ·cases hc
 case buildSlice t n parts=>
  split at hc
  ·rename_i e ht
   split at hc
   ·rename_i i hi
    split at hc
    ·rename_i z hz
     split at hc
     ·rename_i hp
      cases hc
      exact dC hg _ rfl (aLl ht hi hz hp.1 hp.2.1 hI hR h)
     ·cases hc
    ·cases hc
   ·cases hc
  ·cases hc
 case load t x=>
  obtain⟨⟨g,n⟩,ht,rfl⟩:=ZO.1 hc
  exact dC hg _ rfl (aLi ht hI hR h)
 case store t x y=>
  obtain⟨⟨g,n⟩,ht,rfl⟩:=ZO.1 hc
  obtain⟨w',af,hr,aS,hk⟩:=aLo ht hI hR h
  simp only[Oper.wp,execOp,Sem.run_bind,hr,Result.andThen_ok,Sem.run_pure,Oper.upon]
  exact hg.val M _ af undef w' (Mem.le.refl _) aS (.v _) hk
 case nilCheck x=>
  cases hc
  have hx:=hR.ev x
  simp only[ak]at h
  split at h
  ·rename_i ad he
   rw[he]at hx
   exact dC hg (pure (a.eval x)) (by simp[execOp,hx.aC]) (aJ.same hI hx h rfl)
  ·rename_i tg b o he
   rw[he]at hx
   exact dC hg (pure (a.eval x)) (by simp[execOp,hx.nI]) (aJ.same hI hx h rfl)
  ·rename_i l he
   rw[he]at hx
   obtain⟨b,off,cs,hv,_⟩:=hx.ua
   exact dC hg (pure (a.eval x)) (by simp[execOp,hv]) (aJ.same hI hx h rfl)
  ·rename_i f b c he
   rw[he]at hx
   exact dC hg (pure (a.eval x)) (by simp[execOp,hx.aC]) (aJ.same hI hx h rfl)
  ·rename_i f b c he
   rw[he]at hx
   obtain⟨va,vc,hv,_⟩:=hx.aNF
   exact dC hg (pure (a.eval x)) (by simp[execOp,hv]) (aJ.same hI hx h rfl)
  ·exact h.elim
 case binOp op t x y ty2=>
  have B3:∀ neg,Bj P neg t x y=some lL→aJ P M w0 K ((do eqGuard (if neg then .neq else .eql) t x y (a.eval x) (a.eval y);binOp (if neg then .neq else .eql) t (a.eval x) (a.eval y):Sem Value).run P w):=by
   intro neg hc
   unfold Bj at hc
   split at hc
   ·cases hc;have:=Iy (t:=t) hI hR h;cases neg<;>exact this
   ·cases hc;have:=Iy (t:=t) hI hR h;cases neg<;>exact this
   ·rename_i fs ht
    split at hc
    ·rename_i hp
     obtain⟨ks,hk,rfl⟩:=ZO.1 hc
     exact aK9 ht hp.1 hp.2 hk hI hR h
    ·cases hc
   ·rename_i ht;cases hc;exact Ac (k:= .bool) ht hI hR h
   ·rename_i e ht;cases hc;exact Ac (k:= .slice) ⟨_,ht⟩ hI hR h
   ·rename_i e ht;cases hc;exact Ac (k:= .map) ⟨_,_,ht⟩ hI hR h
   ·rename_i e ht;cases hc;exact Ac (k:= .func) ⟨_,_,_,ht⟩ hI hR h
   ·rename_i e ht;cases hc;exact Ac (k:= .ptr) ⟨_,ht⟩ hI hR h
   ·cases hc
  cases op
  case eql=>
   simp only at hc
   split at hc
   ·rename_i i he;cases hc;exact dC hg _ rfl (B3 false he)
   ·cases hc;exact lZ hg hI [x,y] (fJ hR _) rfl h
  case neq=>
   simp only at hc
   split at hc
   ·rename_i i he;cases hc;exact dC hg _ rfl (B3 true he)
   ·cases hc;exact lZ hg hI [x,y] (fJ hR _) rfl h
  all_goals(cases hc;exact dC hg _ rfl (Iy (t:=t) hI hR h))
 case unOp op t x=>cases hc;exact dC hg _ rfl (aLp hI hR h)
 case convert src aNh x=>
  split at hc
  ·rename_i k k' hs hd
   cases hc
   exact dC hg _ rfl (aK8 hs hd hI hR h)
  ·rename_i hs hd
   cases hc
   have hx:=hR.ev x
   refine dC hg _ rfl ?_
   simp only[ak]at h
   split at h
   ·rename_i s he
    rw[he]at hx
    rw[hx.aC]
    exact aJ.same hI (.v _) h (by simp[convert,aW hs,aW hd])
   ·exact h.elim
  ·cases hc;exact lZ hg hI [x] (fJ hR _) rfl h
 case makeInterface t x=>
  split at hc
  ·cases hc
  ·rename_i dsc bB ht
   cases hc
   refine dC hg (Instr.makeInterface t (a.eval x)) rfl (aJ.same hI (.kQ t _ _ (hR.ev x)) h ?_)
   cases dsc<;>first|exact(bB _ rfl).elim|simp[Instr.makeInterface,aW ht]
  ·cases hc
 case makeFunc fn first captured=>
  cases hc
  simp only[ak]at h
  split at h
  ·rename_i l1 l2 h1 h2
   have e1:=vi _ _ _ (fJ hR first.toList) h1
   have e2:=vi _ _ _ (fJ hR captured.toList) h2
   refine dC hg (Instr.makeFunc fn (first.map a.eval) (captured.map a.eval)) rfl (aJ.same hI (.v _) h ?_)
   have e3:first.map a.eval=l1.toArray:=by apply YD;rw[← e1];simp
   have e4:captured.map a.eval=l2.toArray:=by apply YD;rw[← e2];simp
   simp[Instr.makeFunc,e3,e4]
  ·split at h
   ·rename_i f
    refine dC hg (Instr.makeFunc (.func f) (first.map a.eval) (captured.map a.eval)) rfl (aJ.same hI (R.agt (fJ hR first.toList) (fJ hR captured.toList)) h ?_)
    simp only[Instr.makeFunc,Sem.run_pure]
    congr 2<;>(apply YD;simp)
   ·exact h.elim
 case slice t x lo hi mx=>
  cases mx with
  |none=>
   simp only at hc
   split at hc
   ·rename_i e ht
    split at hc
    ·rename_i i dw
     cases hc
     exact dC hg _ rfl (aLn ht dw hI hR h)
    ·cases hc
   ·cases hc;exact lZ hg hI (x::(lo.toList++hi.toList)) (fJ hR _) rfl h
  |some m=>simp at hc
 case fieldAddr t x i=>
  split at hc
  ·rename_i fs ht
   split at hc
   ·rename_i f hf
    split at hc
    ·rename_i k hk
     split at hc
     ·rename_i h0
      cases hc
      exact dC hg _ rfl (aLb ht hf hk h0 hI hR h)
     ·cases hc
    ·cases hc
   ·cases hc
  ·cases hc
 case field t x i=>
  split at hc
  ·rename_i fs ht
   split at hc
   ·rename_i f hf
    obtain⟨⟨g,n⟩,hgn,rfl⟩:=ZO.1 hc
    exact dC hg _ rfl (aLc ht hf hgn hI hR h)
   ·cases hc
  ·cases hc
 case indexAddr t x i=>
  split at hc
  ·rename_i e ht
   split at hc
   ·rename_i k hk;cases hc;exact dC hg _ rfl (aLd ht hk hI hR h)
   ·cases hc
  ·rename_i n e ht
   split at hc
   ·rename_i k hk;cases hc;exact dC hg _ rfl (aLe ht hk hI hR h)
   ·cases hc
  ·cases hc
 case index t x i=>
  split at hc
  ·rename_i ht;cases hc;exact dC hg _ rfl (aLf ht hI hR h)
  ·cases hc;exact lZ hg hI [x,i] (fJ hR _) rfl h
 case makeMap t r=>
  cases r with
  |none=>cases hc;exact lZ hg hI [] (fJ hR _) rfl h
  |some r=>cases hc
 case insert t m k x=>cases hc;exact lZ hg hI [m,k,x] (fJ hR _) rfl h
 case mapUpdate t m k x=>cases hc;exact lZ hg hI [m,k,x] (fJ hR _) rfl h
 case mapEntry t m k=>cases hc;exact lZ hg hI [m,k] (fJ hR _) rfl h
 case entryStore t m k x=>cases hc;exact lZ hg hI [m,k,x] (fJ hR _) rfl h
 case lookup t m k ok=>cases hc;exact lZ hg hI [m,k] (fJ hR _) rfl h
 case makeSlice t n c=>cases hc;exact lZ hg hI [n,c] (fJ hR _) rfl h
 case extract x i=>cases hc;exact dC hg _ rfl (aLa hI hR h)
 case panic x=>
  cases hc
  simp only[ak]at h
  split at h
  ·rename_i t y e
   split at h
   ·rename_i v e2
    have hx:=bW.ev hR x
    rw[e]at hx
    obtain⟨u,hu,hy⟩:=hx.agW
    have h2:[u]=[v]:=vi [y] [u] [v] (RL.cons hy RL.nil) e2
    have h3:u=v:=by simpa using h2
    subst h3
    have hr:(execOp a.eval ⟨dst,.panic x,ty,pos,after,guard⟩).run P w= .halt (.panic (.iface t u)) w:=by
     simp[execOp,hu,Instr.panic,Sem.run_bind]
    simp only[Oper.wp,hr,Oper.upon]
    exact hg.lP M _ σ w (Mem.le.refl _) hI h
   ·exact h.elim
  ·exact h.elim
 case call c=>
  split at hc
  case h_2=>
   split at hc
   ·cases hc;exact lZ hg hI c.args.toList (fJ hR _) rfl h
   ·cases hc
  rename_i aNu gi
  cases hc
  replace hc:=gi
  obtain⟨callee,args,argTypes⟩:=c
  unfold KT at hc
  split at hc
  ·rename_i f iT
   simp only at iT;subst iT
   split at hc
   ·rename_i dJ
    cases hc
    refine I8 hg hI (fJ hR args.toList) h ?_
    have e:(args.toList.map a.eval).toArray=args.map a.eval:=by apply YD;simp
    simp only[e]
    simp[execOp,resolve,Deferred.ofValue,invoke,Act.eval,It dJ]
   ·cases hc
  ·rename_i f hnf iT
   simp only at iT;subst iT
   cases hc
   simp only[ak]at h
   split at h
   ·rename_i g b c he
    obtain⟨dJ,h⟩:=h
    have hf:=hR.ev f
    rw[he]at hf
    refine I8 hg hI (RL.append (RL.append (RL.exact b.toList) (fJ hR args.toList)) (RL.exact c.toList)) h ?_
    simp[execOp,resolve,Deferred.ofValue,invoke,hf.aC,It dJ]
   ·rename_i g b c he
    obtain⟨dJ,h⟩:=h
    have hf:=hR.ev f
    rw[he]at hf
    obtain⟨va,vc,hv,ha,hc⟩:=hf.aNF
    refine I8 hg hI (RL.append (RL.append ha (fJ hR args.toList)) hc) h ?_
    simp[execOp,resolve,Deferred.ofValue,invoke,hv,It dJ]
   ·exact h.elim
  ·rename_i iT
   simp only at iT;subst iT
   simp only at hc
   split at hc
   ·rename_i x t hx pV
    have e1:args= #[x]:=by apply YD;simpa using hx
    have e2:argTypes= #[t]:=by apply YD;simpa using pV
    subst e1 e2
    split at hc
    ·rename_i ht;cases hc;exact dC hg (Builtin.len_ #[t] ty #[a.eval x]) (by simp[execOp,resolve,invoke,builtin]) (aLh ht hI hR h)
    ·rename_i e ht;cases hc;exact dC hg (Builtin.len_ #[t] ty #[a.eval x]) (by simp[execOp,resolve,invoke,builtin]) (aLg ht hI hR h)
    ·cases hc
   ·cases hc
  ·rename_i iT
   simp only at iT;subst iT
   simp only at hc
   split at hc
   ·rename_i x y t u hx pV
    have e1:args= #[x,y]:=by apply YD;simpa using hx
    have e2:argTypes= #[t,u]:=by apply YD;simpa using pV
    subst e1 e2
    split at hc
    ·rename_i e e' ht hu
     split at hc
     ·rename_i i hi
      split at hc
      ·rename_i z hz
       split at hc
       ·rename_i hp
        cases hc
        exact dC hg (Builtin.append_ #[t,u] ty #[a.eval x,a.eval y]) (by simp[execOp,resolve,invoke,builtin]) (Qm ht (.inl ⟨_,hu⟩) hi hz hp.1 hp.2.1 hp.2.2 hI hR h)
       ·cases hc
      ·cases hc
     ·cases hc
    ·rename_i e ht hu
     split at hc
     ·rename_i i hi
      split at hc
      ·rename_i z hz
       split at hc
       ·rename_i hp
        cases hc
        exact dC hg (Builtin.append_ #[t,u] ty #[a.eval x,a.eval y]) (by simp[execOp,resolve,invoke,builtin]) (Qm ht (.inr hu) hi hz hp.1 hp.2.1 hp.2.2 hI hR h)
       ·cases hc
      ·cases hc
     ·cases hc
    ·cases hc
   ·cases hc
  ·rename_i iT
   simp only at iT;subst iT
   simp only at hc
   split at hc
   ·rename_i x y hx
    have e1:args= #[x,y]:=by apply YD;simpa using hx
    subst e1
    cases hc
    exact dC hg (Builtin.max_ argTypes ty #[a.eval x,a.eval y]) (by simp[execOp,resolve,invoke,builtin]) (aLj hI hR h)
   ·cases hc
  ·rename_i iT
   simp only at iT;subst iT
   simp only at hc
   split at hc
   ·rename_i x y hx
    have e1:args= #[x,y]:=by apply YD;simpa using hx
    subst e1
    cases hc
    exact dC hg (Builtin.min_ argTypes ty #[a.eval x,a.eval y]) (by simp[execOp,resolve,invoke,builtin]) (aLk hI hR h)
   ·cases hc
  ·cases hc
end
end Go.Sx
namespace Go.Sx
def waits(ops:Array Oper)(i j:Nat):Bool:=((ops[i]?).map fun o=>o.after.any fun e=>Region.binds .any e && Nat.beq e.on j).getD false
def vr(ops:Array Oper):Bool:=(List.range ops.size).all fun i=>((ops[i]?).map fun o=>o.after.all fun e=> !Region.binds .any e || Nat.blt e.on i).getD false
def rI(ops:Array Oper)(k:Nat):Bool:=Nat.ble k ops.size && (List.range ops.size).all fun i=>Nat.blt i k || (List.range i).all fun j=>waits ops i j
def dY(ops:Array Oper)(listed:Nat→Bool):List Nat:=
 (List.range ops.size).filter fun i=> !listed i && ((ops[i]?).map (·.after.all fun e=> !Region.binds .any e || listed e.on)).getD false
def iD(ops:Array Oper):Nat→Nat→(Nat→Bool)→List Nat
 |0,_,_=>[]
 |fuel+1,t,listed=>match(dY ops listed)[t % (dY ops listed).length]? with
  |some i=>i::iD ops fuel (t / (dY ops listed).length) fun j=>listed j || Nat.beq i j
  |none=>[]
theorem acq(ops:Array Oper):∀ (fuel t:Nat) (listed:Array Bool) (acc:List Nat) (p:Nat→Bool),listed.size=ops.size→(∀ i,i<ops.size→listed.getD i true=p i∧listed.getD i false=p i)→(∀ i,i<ops.size→∀ o,ops[i]? =some o→∀ e∈o.after,Region.binds .any e=true→e.on<ops.size)→
  Region.linearise.go .any ops fuel t listed acc=acc.reverse++iD ops fuel t p:=by
 intro fuel
 induction fuel with
 |zero=>intro t listed acc p _ _ _;simp[Region.linearise.go,iD]
 |succ fuel ih=>
  intro t listed acc p bC hp he
  have hr:((List.range ops.size).filter fun i=> !listed.getD i true && ((ops[i]?).map (·.after.all fun e=> !Region.binds .any e || listed.getD e.on false)).getD false)=dY ops p:=by
   unfold dY
   refine List.filter_congr fun i hi=> ?_
   have dw:i<ops.size:=Y6.1 hi
   rw[(hp i dw).1]
   congr 1
   have ho:ops[i]? =some ops[i]:=ZH dw
   rw[ho]
   simp only[Zc,Zu]
   grind
  simp only[Region.linearise.go,iD,hr]
  cases hi:(dY ops p)[t % (dY ops p).length]? with
  |none=>simp
  |some i=>
   simp only
   have Ge:i<ops.size:=by
    have:=List.mem_of_getElem? hi
    unfold dY at this
    exact Y6.1 (Zh.1 this).1
   rw[ih (t / (dY ops p).length) (listed.setIfInBounds i true) (i::acc) (fun j=>p j || Nat.beq i j) (by simpa using bC) (fun j hj=> ?_) he]
   ·simp
   ·have h1:=hp j hj
    by_cases e:i=j
    ·subst e
     simp[ZT,Zp,bC,Ge,X8]
    ·have e':Nat.beq i j=false:=by
      cases hb:Nat.beq i j with
      |false=>rfl
      |true=>exact absurd (Zm hb) e
     simp only[ZT,Zp,e',Bool.or_false]at h1 ⊢
     simpa[e]using h1
theorem OE(ops:Array Oper)(hf:vr ops=true)(t:Nat):Region.linearise .any ops t=iD ops ops.size t fun i=> !Nat.blt i ops.size:=by
 unfold Region.linearise
 rw[acq ops ops.size t _ [] (fun i=> !Nat.blt i ops.size) (by simp) (fun i hi=> ?_) (fun i hi o ho e he hb=> ?_)]
 ·rfl
 ·simp_all
 ·have h1:=Zx.1 hf i (Y6.2 hi)
  rw[ho]at h1
  simp only[Zc,Zu,ZD]at h1
  have h2:=h1 e he
  rw[hb]at h2
  simp at h2
  omega
theorem LR{α:Type}(p q:α→Bool):∀ (l:List α),(∀ x∈l,q x=true→p x=true)→(∃ x∈l,p x=true∧q x=false)→(l.filter q).length+1≤(l.filter p).length
 |[],_,⟨x,hx,_⟩=>by cases hx
 |a::l,h,⟨x,hx,h1,h2⟩=>by
  rcases ZQ.1 hx with rfl|hx
  ·rw[List.filter_cons,List.filter_cons,Z6 (by simp[h2]),Z3 h1,Z8]
   have:(l.filter q).length≤(l.filter p).length:=by
    rw[← List.countP_eq_length_filter,← List.countP_eq_length_filter]
    exact List.countP_mono_left fun y hy hq=>h y (ZL _ hy) hq
   omega
  ·have ih:=LR p q l (fun y hy=>h y (ZL _ hy)) ⟨x,hx,h1,h2⟩
   grind
theorem BK{ops:Array Oper}(hf:vr ops=true){i:Nat}(hi:i<ops.size):∀ e∈ops[i].after,Region.binds .any e=true→e.on<i:=fun e he hb=>by
 have h1:=Zx.1 hf i (Y6.2 hi)
 rw[ZH hi]at h1
 simp only[Zc,Zu,ZD]at h1
 have h2:=h1 e he
 simp_all
theorem Oq{ops:Array Oper}{k:Nat}(hl:rI ops k=true){i j:Nat}(hi:i<ops.size)(hk:k≤i)(hj:j<i):∃ e∈ops[i].after,Region.binds .any e=true∧e.on=j:=by
 unfold rI at hl
 rw[ZP]at hl
 have h1:=Zx.1 hl.2 i (Y6.2 hi)
 rw[YU]at h1
 rcases h1 with h1|h1
 ·rw[Ya]at h1;omega
 ·have h2:=Zx.1 h1 j (Y6.2 hj)
  unfold waits at h2
  rw[ZH hi]at h2
  simp only[Zc,Zu]at h2
  rw[X0]at h2
  obtain⟨m,hm,h3⟩:=h2
  rw[ZP]at h3
  exact⟨_,Yo hm,h3.1,Zm h3.2⟩
theorem afZ{ops:Array Oper}{k:Nat}(hl:rI ops k=true):k≤ops.size:=by
 unfold rI at hl
 rw[ZP]at hl
 exact ZW hl.1
theorem rK{ops:Array Oper}{p:Nat→Bool}{i:Nat}:i∈dY ops p↔∃ h:i<ops.size,p i=false∧∀ e∈ops[i].after,Region.binds .any e=true→p e.on=true:=by
 unfold dY
 rw[Zh,Y6]
 constructor
 ·rintro⟨h,h2⟩
  rw[ZP,ZH h]at h2
  simp only[Zc,Zu,ZD]at h2
  grind
 grind
theorem aho{ops:Array Oper}{k:Nat}(hf:vr ops=true)(hl:rI ops k=true):∀ (d m fuel t:Nat) (q:Nat→Bool),ops.size-m=d→k≤m→d≤fuel→(∀ i,q i=(Nat.blt i m || !Nat.blt i ops.size))→m≤ops.size→iD ops fuel t q=List.range' m d:=by
 intro d
 induction d with
 |zero=>
  intro m fuel t q hd _ _ hq hm
  have hr:dY ops q=[]:=by
   rw[List.eq_nil_iff_forall_not_mem]
   intro i hi
   obtain⟨h,h1,_⟩:=rK.1 hi
   grind
  cases fuel with
  |zero=>rfl
  |succ fuel=>simp[iD,hr]
 |succ d ih=>
  intro m fuel t q hd hk hfu hq hm
  cases fuel with
  |zero=>omega
  |succ fuel=>
   have Ni:m<ops.size:=by omega
   have rq:Nat.blt m m=false:=by cases hb:Nat.blt m m with|false=>rfl|true=>simp_all
   have MQ:Nat.blt m ops.size=true:=by simp_all
   have hr:dY ops q=[m]:=by
    have iW:∀ i,i∈dY ops q↔i=m:=fun i=>by
     rw[rK]
     constructor
     ·rintro⟨h,h1,h2⟩
      rcases Yb i m with h3|h3|h3
      ·rw[hq]at h1
       have:Nat.blt i m=true:=by rw[Ya];grind
       grind
      ·exact h3
      ·obtain⟨e,he,hb,oJ⟩:=Oq hl h (by omega) h3
       have:=h2 e he hb
       rw[oJ,hq,rq,MQ]at this;cases this
     ·rintro rfl
      refine⟨Ni,by rw[hq,rq,MQ];rfl,fun e he hb=> ?_⟩
      have:=BK hf Ni e he hb
      rw[hq]
      have:Nat.blt e.on i=true:=by rw[Ya];exact this
      rw[this];rfl
    have hnd:(dY ops q).Nodup:=List.Pairwise.filter _ List.nodup_range
    match hL:dY ops q,iW,hnd with
    |[],hs,_=>exact absurd ((hs m).2 rfl) (by simp)
    |[x],hs,_=>rw[(hs x).1 (by simp)]
    |x::y::l,hs,hn=>
     have h1:=(hs x).1 (by simp)
     have h2:=(hs y).1 (by simp)
     simp[h1,h2]at hn
   simp only[iD,hr,Zg,Nat.mod_one,List.getElem?_cons_zero]
   rw[List.range'_succ,ih (m+1) fuel _ _ (by omega) (by omega) (by omega) (fun i=> ?_) (by omega)]
   rw[hq]
   by_cases h1:i<m
   ·have e1:Nat.blt i m=true:=by rw[Ya];exact h1
    have e2:Nat.blt i (m+1)=true:=by rw[Ya];omega
    rw[e1,e2];rfl
   ·have e1:Nat.blt i m=false:=by cases hb:Nat.blt i m with|false=>rfl|true=>rw[Ya]at hb;omega
    by_cases h2:i=m
    ·subst h2
     have e2:Nat.blt i (i+1)=true:=by rw[Ya];omega
     rw[e2,X8];simp
    ·have e2:Nat.blt i (m+1)=false:=by cases hb:Nat.blt i (m+1)with|false=>rfl|true=>rw[Ya]at hb;omega
     have e3:Nat.beq m i=false:=by cases hb:Nat.beq m i with|false=>rfl|true=>exact absurd (Zm hb).symm h2
     rw[e1,e2,e3];simp
theorem PD(ops:Array Oper):∀ (fuel t:Nat) (p:Nat→Bool) {i:Nat},i∈iD ops fuel t p→i<ops.size
 |0,_,_,_,h=>by cases h
 |fuel+1,t,p,i,h=>by
  unfold iD at h
  split at h
  ·rename_i j hj
   rcases ZQ.1 h with rfl|h
   ·obtain⟨h1,_⟩:=rK.1 (List.mem_of_getElem? hj);grind
   ·exact PD ops fuel _ _ h
  grind
theorem ahp{ops pre:Array Oper}{k:Nat}(hf:vr ops=true)(hl:rI ops k=true)(hp:pre.size=k)(he:∀ i (h:i<k) (h':i<ops.size) (vu:i<pre.size),pre[i]=ops[i]):
  ∀ (fuel t:Nat) (p q:Nat→Bool),((List.range k).filter fun i=> !p i).length≤fuel→(∀ i,q i=if i<k then p i else !Nat.blt i ops.size)→iD ops (fuel+(ops.size-k)) t q=iD pre fuel t p++List.range' k (ops.size-k):=by
 have yO:=afZ hl
 have done:∀ (fuel t:Nat) (p q:Nat→Bool),(∀ i,i<k→p i=true)→(∀ i,q i=if i<k then p i else !Nat.blt i ops.size)→iD ops (fuel+(ops.size-k)) t q=List.range' k (ops.size-k):=fun fuel t p q cH hq=>
  aho hf hl _ k _ t q rfl (ZR _) (by omega) (fun i=>by
   rw[hq]
   by_cases h:i<k
   ·simp_all
   ·have e1:Nat.blt i k=false:=by cases hb:Nat.blt i k with|false=>rfl|true=>rw[Ya]at hb;omega
    grind) yO
 intro fuel
 induction fuel with
 |zero=>
  intro t p q hc hq
  have h0:=ZM (Nat.le_zero.1 hc)
  exact done 0 t p q (fun i hi=>by
   simp_all) hq
 |succ fuel ih=>
  intro t p q hc hq
  by_cases cH:∀ i,i<k→p i=true
  ·have hr:dY pre p=[]:=by
    rw[List.eq_nil_iff_forall_not_mem]
    intro i hi
    obtain⟨h,h1,_⟩:=rK.1 hi
    grind
   rw[done (fuel+1) t p q cH hq]
   simp[iD,hr]
  ·obtain⟨i0,my,tF⟩:∃ i0,(i0<k∧p i0=false)∧∀ j,j<i0→p j=true:=by
    have:∃ i,i<k∧p i=false:=by
     refine Classical.byContradiction fun hn=>cH fun i hi=> ?_
     cases hpi:p i with
     |true=>rfl
     |false=>exact absurd ⟨i,hi,hpi⟩ hn
    obtain⟨n,hn⟩:=this
    induction n using Nat.strongRecOn with
    |ind n ihn=>
     by_cases h:∃ j,j<n∧p j=false
     ·obtain⟨j,hj,Gx⟩:=h;exact ihn j hj ⟨by omega,Gx⟩
     ·refine⟨n,hn,fun j hj=> ?_⟩
      cases Gx:p j with
      |true=>rfl
      |false=>exact absurd ⟨j,hj,Gx⟩ h
   have yW:∀ j,j<k→q j=p j:=fun j hj=>by rw[hq,Z3 hj]
   have hr:dY ops q=dY pre p:=by
    have eO:∀ i,i∈dY ops q↔i∈dY pre p:=fun i=>by
     rw[rK,rK]
     constructor
     ·rintro⟨h,h1,h2⟩
      by_cases lG:i<k
      ·refine⟨by omega,by rw[← yW i lG];exact h1,fun e nc hb=> ?_⟩
       rw[he i lG h (by omega)]at nc
       have h3:=BK hf h e nc hb
       rw[← yW _ (by omega)];exact h2 e nc hb
      ·obtain⟨e,nc,hb,oJ⟩:=Oq hl h (by omega) (show i0<i by omega)
       have:=h2 e nc hb
       rw[oJ,yW i0 my.1,my.2]at this;cases this
     ·rintro⟨h,h1,h2⟩
      have lG:i<k:=by omega
      refine⟨by omega,by rw[yW i lG];exact h1,fun e nc hb=> ?_⟩
      have acP:e∈pre[i].after:=by rw[he i lG (by omega) h];exact nc
      have h3:=BK hf (show i<ops.size by omega) e nc hb
      rw[yW _ (by omega)];exact h2 e acP hb
    have e1:dY ops q=(List.range k).filter (fun i=>decide (i∈dY pre p)):=by
     unfold dY at eO ⊢
     have e2:List.range ops.size=List.range k++List.range' k (ops.size-k):=by
      have h:= @List.range'_append_1 0 k (ops.size-k)
      rw[Zl,show k+(ops.size-k)=ops.size by omega]at h
      rw[XY,XY,← h]
     rw[e2,XF]
     have e3:(List.range' k (ops.size-k)).filter (fun i=> !q i && ((ops[i]?).map (·.after.all fun e=> !Region.binds .any e || q e.on)).getD false)=[]:=by
      rw[Xz]
      intro i hi gi
      have h1:=(eO i).1 (Zh.2 ⟨by rw[e2];exact Zt _ hi,gi⟩)
      have h2:=Y6.1 (Zh.1 h1).1
      have h3:=List.mem_range'.1 hi
      omega
     rw[e3,Zb]
     refine List.filter_congr fun i hi=> ?_
     have h1:=eO i
     rw[Zh,Zh]at h1
     have h2:i∈List.range ops.size:=Y6.2 (by have:=Y6.1 hi;omega)
     have h3:i∈List.range pre.size:=Y6.2 (by have:=Y6.1 hi;omega)
     rw[Yy,Zn,Zh]
     constructor
     ·intro h;exact h1.1 ⟨h2,h⟩
     ·intro h;exact(h1.2 h).2
    rw[e1]
    conv=>rhs;unfold dY
    rw[hp]
    refine List.filter_congr fun i hi=> ?_
    rw[Yy,Zn]
    unfold dY
    rw[Zh,hp]
    exact⟨fun h=>h.2,fun h=>⟨hi,h⟩⟩
   have bB:dY pre p≠[]:=fun e=>by
    have:i0∈dY pre p:=rK.2 ⟨by omega,my.2,fun e nc hb=>by
     rw[he i0 my.1 (by omega) (by omega)]at nc
     exact tF _ (BK hf (show i0<ops.size by omega) e nc hb)⟩
    rw[e]at this;cases this
   have hlen:0<(dY pre p).length:=Yl.2 bB
   obtain⟨i,hi⟩:∃ i,(dY pre p)[t % (dY pre p).length]? =some i:=⟨_,ZX (Nat.mod_lt _ hlen)⟩
   have Ge:=List.mem_of_getElem? hi
   obtain⟨h1,h2,_⟩:=rK.1 Ge
   rw[show fuel+1+(ops.size-k)=(fuel+(ops.size-k))+1 by omega]
   simp only[iD,hr,hi]
   rw[Ze,ih (t / (dY pre p).length) (fun j=>p j || Nat.beq i j) (fun j=>q j || Nat.beq i j) ?_ (fun j=> ?_)]
   ·have:=LR (fun i=> !p i) (fun j=> !(p j || Nat.beq i j)) (List.range k) (fun x _ hx=>by simp at hx ⊢;exact hx.1) ⟨i,Y6.2 (by omega),by simp[h2],by simp[X8]⟩
    omega
   ·rw[hq]
    by_cases hj:j<k
    ·rw[Z3 hj,Z3 hj]
    ·rw[Z6 hj,Z6 hj]
     have:Nat.beq i j=false:=by cases hb:Nat.beq i j with|false=>rfl|true=>have:=Zm hb;omega
     rw[this,Bool.or_false]
end Go.Sx
