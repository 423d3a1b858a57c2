/-
  The layer Sx, eighth part: every compiled operation is sound; regions; code; functions.
-/
import Derived.Test.YtajimcniogfpcaaGreatDoorSxComp
import Derived.Orders
set_option linter.unusedVariables false
set_option linter.unusedSimpArgs false
set_option linter.unusedSectionVars false
namespace Go.Sx
open Go.RowKit
section
variable {P:Program}[Glob P]{M:Mem}{w0:Base}{w:World}{σ:Store}{K:AV→Store→Prop}{rg:af}{a:Act}{cfg:Nat→Nat}{d:Option Nat}{E:List PanicEntry→Store→Prop}
structure AX(P:Program)[Glob P](M:Mem)(w0:Base)(w:World)(K:AV→Store→Prop)(E:List PanicEntry→Store→Prop)(o:Oper)(a:Act)(next:Act→World→Prop)(Q:Exit→Act→World→Prop):Prop where
 val:∀ (M':Mem) (x:AV) (σ':Store) (v:Value) (w':World),M.le M'→Inv P M' w0 σ' w'→R M' x v→K x σ'→next (a.put o.dst v) w'
 gL:∀ (M':Mem) (ch:List PanicEntry) (σ':Store) (w':World),M.le M'→Inv P M' w0 σ' w'→E ch σ'→Q (.panic ch) a w'
theorem ei{o:Oper}{next:Act→World→Prop}{Q:Exit→Act→World→Prop}(hg:AX P M w0 w K E o a next Q)(s:Sem Value)(he:execOp a.eval o=(do pure (.value (← s))))(h:aO P M w0 K (s.run P w)):o.wp P a w next Q:=by
 obtain⟨v,w',M',x,σ',hr,hM,hI,hR,hk⟩:=h
 simp only[Oper.wp,he,Sem.run_bind,hr,Result.andThen_ok,Sem.run_pure,Oper.upon]
 exact hg.val M' x σ' v w' hM hI hR hk
theorem Pf{M:Mem}:∀ (xs:List AV) (vs l:List Value),RL M xs vs→ik xs=some l→vs=l
 |[],vs,l,h,e=>by simp[ik]at e;subst e;exact h.qU
 |x::xs,vs,l,h,e=>by
  obtain⟨v,vs',rfl,hx,dA⟩:=h.bg
  unfold ik at e
  split at e
  ·simp_all
  ·rename_i y ys heq
   cases heq
   obtain⟨l',h1,rfl⟩:=Z7.1 e
   rw[hx.ay,Pf xs vs' l' dA h1]
  grind
theorem zh{M:Mem}:∀ (xs:List AV) (vs l:List Value),RL M xs vs→bV xs=some l→vs=l
 |[],vs,l,h,e=>by simp[bV]at e;subst e;exact h.qU
 |x::xs,vs,l,h,e=>by
  obtain⟨v,vs',rfl,hx,dA⟩:=h.bg
  unfold bV at e
  split at e
  ·simp_all
  ·rename_i y ys heq
   cases heq
   obtain⟨l',h1,rfl⟩:=Z7.1 e
   rw[hx.ay,zh xs vs' l' dA h1]
  ·rename_i tg b o ys heq
   cases heq
   obtain⟨l',h1,rfl⟩:=Z7.1 e
   rw[hx.pB,zh xs vs' l' dA h1]
  ·rename_i zs ys heq
   cases heq
   split at e
   ·rename_i cs hc
    obtain⟨l',h1,rfl⟩:=Z7.1 e
    obtain⟨us,rfl,E8⟩:=hx.np
    rw[Pf zs us cs E8 hc,zh xs vs' l' dA h1]
   grind
  grind
theorem Mi{f:FuncId}(h:ij P f=true)(args:Array Value)(w:World):(callFunc f args).run P w= .ok (.enter f args) w:=by
 unfold ij at h
 split at h
 ·rename_i fn hf
  simp at h
  obtain⟨c,hb⟩:=Yt.1 h.2
  simp[callFunc,hf,h.1,hb]
 grind
theorem MW{o:Oper}{next:Act→World→Prop}{Q:Exit→Act→World→Prop}{f:FuncId}{as:List AV}{cs:List Value}(hg:AX P M w0 w K E o a next Q)(hI:Inv P M w0 σ w)(hl:RL M as cs)(h:nA P f as σ K E)
  (he:(execOp a.eval o).run P w= .ok (.enter f cs.toArray) w):o.wp P a w next Q:=by
 obtain⟨Qs,hs,h1,h2⟩:=h
 simp only[Oper.wp,he,Oper.upon]
 refine(hs M w0 w cs hI hl).mono fun e w' ⟨M',r,σ',hM,bw,hr,hq⟩=> ?_
 cases r with
 |ret x=>
  cases e with
  |returned v=>exact hg.val M' x σ' v w' hM bw hr (h1 x σ' hq)
  |_=>exact hr.elim
 |gL ch=>
  cases e with
  |panicked ID=>have:ID=ch:=hr;subst this;exact hg.gL M' _ σ' w' hM bw (h2 _ σ' hq)
  |_=>exact hr.elim
theorem mA{o:Oper}{next:Act→World→Prop}{Q:Exit→Act→World→Prop}(hg:AX P M w0 w K E o a next Q)(hI:Inv P M w0 σ w)(args:List Operand)(hl:RL M (aE rg args) (args.map a.eval)){ti:List TI}(bx:eK P o.op=ti)(h:gb P o.op o.type ti args (aE rg args) σ K):o.wp P a w next Q:=by
 obtain⟨nx,w',M',x,v,σ',hr,hn,hM,bw,hx,hk⟩:=h bx M w0 w a.eval hI hl
 have hr:(execOp a.eval o).run P w= .ok nx w':=hr
 simp only[Oper.wp,hr,Oper.upon]
 cases nx with
 |value u=>have:v=u:=hn;subst this;exact hg.val M' x σ' v w' hM bw hx hk
 |skip=>have:v=undef:=hn;subst this;exact hg.val M' x σ' undef w' hM bw hx hk
 |_=>exact hn.elim
theorem acF{o:Oper}{iK:aw}(hc:D4 P o=some iK)(h:al P cfg d rg σ K E iK)(hI:Inv P M w0 σ w)(hR:ct M rg a){next:Act→World→Prop}{Q:Exit→Act→World→Prop}(hg:AX P M w0 w K E o a next Q):
  o.wp P a w next Q:=by
 obtain⟨dst,op,ty,pos,after,guard⟩:=o
 unfold D4 at hc
 cases op<;>simp only[reduceCtorEq]at hc
 case move x=>cases hc;exact ei hg (pure (a.eval x)) rfl (UH hI hR h)
 case assign x=>cases hc;exact ei hg (pure (a.eval x)) rfl (UH hI hR h)
 case pick c x y=>cases hc;exact ei hg (do pure (if ← asBool (a.eval c)then a.eval x else a.eval y)) (by simp[execOp]) (aj5 hI hR h)
 case alloc e=>
  split at hc
  ·rename_i i hi
   obtain⟨z,hz,rfl⟩:=Z7.1 hc
   exact ei hg _ rfl (ajO hi hz hI h)
  ·cases hc
 case box e x=>cases hc;exact ei hg _ rfl (ajP hI hR h)
 case build t parts=>
  split at hc
  ·rename_i fs i ht hi
   split at hc
   ·rename_i cO
    split at hc
    ·rename_i z ps hz aq
     cases hc
     exact ei hg _ rfl (ajQ ht hi hz cO aq hI hR h)
    ·cases hc
   ·cases hc
  ·cases hc
 case buildSlice t n parts=>
  split at hc
  ·rename_i e ht
   split at hc
   ·rename_i i hi
    split at hc
    ·rename_i z hz
     split at hc
     ·rename_i hp
      cases hc
      exact ei hg _ rfl (aj4 ht hi hz hp.1 hp.2.1 hI hR h)
     ·cases hc
    ·cases hc
   ·cases hc
  ·cases hc
 case load t x=>
  obtain⟨⟨g,n⟩,ht,rfl⟩:=Z7.1 hc
  exact ei hg _ rfl (aj1 ht hI hR h)
 case store t x y=>
  obtain⟨⟨g,n⟩,ht,rfl⟩:=Z7.1 hc
  obtain⟨w',σ',hr,bw,hk⟩:=aj7 ht hI hR h
  simp only[Oper.wp,execOp,Sem.run_bind,hr,Result.andThen_ok,Sem.run_pure,Oper.upon]
  exact hg.val M _ σ' undef w' (Mem.le.refl _) bw (.v _) hk
 case nilCheck x=>
  cases hc
  have hx:=hR.ev x
  simp only[al]at h
  split at h
  ·rename_i ad he
   rw[he]at hx
   exact ei hg (pure (a.eval x)) (by simp[execOp,hx.ay]) (aO.same hI hx h rfl)
  ·rename_i tg b o he
   rw[he]at hx
   exact ei hg (pure (a.eval x)) (by simp[execOp,hx.pB]) (aO.same hI hx h rfl)
  ·rename_i l he
   rw[he]at hx
   obtain⟨b,off,cs,hv,_⟩:=hx.vu
   exact ei hg (pure (a.eval x)) (by simp[execOp,hv]) (aO.same hI hx h rfl)
  ·rename_i f b c he
   rw[he]at hx
   exact ei hg (pure (a.eval x)) (by simp[execOp,hx.ay]) (aO.same hI hx h rfl)
  ·rename_i f b c he
   rw[he]at hx
   obtain⟨va,vc,hv,_⟩:=hx.LG
   exact ei hg (pure (a.eval x)) (by simp[execOp,hv]) (aO.same hI hx h rfl)
  ·exact h.elim
 case binOp op t x y ty2=>
  have ER:∀ neg,D2 P neg t x y=some iK→aO P M w0 K ((do eqGuard (if neg then .neq else .eql) t x y (a.eval x) (a.eval y);binOp (if neg then .neq else .eql) t (a.eval x) (a.eval y):Sem Value).run P w):=by
   intro neg hc
   unfold D2 at hc
   split at hc
   ·cases hc;have:=Ml (t:=t) hI hR h;cases neg<;>exact this
   ·cases hc;have:=Ml (t:=t) hI hR h;cases neg<;>exact this
   ·rename_i fs ht
    split at hc
    ·rename_i hp
     obtain⟨ks,hk,rfl⟩:=Z7.1 hc
     exact ajS ht hp.1 hp.2 hk hI hR h
    ·cases hc
   ·rename_i ht;cases hc;exact C8 (k:= .bool) ht hI hR h
   ·rename_i e ht;cases hc;exact C8 (k:= .slice) ⟨_,ht⟩ hI hR h
   ·rename_i e ht;cases hc;exact C8 (k:= .map) ⟨_,_,ht⟩ hI hR h
   ·rename_i e ht;cases hc;exact C8 (k:= .func) ⟨_,_,_,ht⟩ hI hR h
   ·rename_i e ht;cases hc;exact C8 (k:= .ptr) ⟨_,ht⟩ hI hR h
   ·cases hc
  cases op
  case eql=>
   simp only at hc
   split at hc
   ·rename_i i he;cases hc;exact ei hg _ rfl (ER false he)
   ·cases hc;exact mA hg hI [x,y] (gD hR _) rfl h
  case neq=>
   simp only at hc
   split at hc
   ·rename_i i he;cases hc;exact ei hg _ rfl (ER true he)
   ·cases hc;exact mA hg hI [x,y] (gD hR _) rfl h
  all_goals(cases hc;exact ei hg _ rfl (Ml (t:=t) hI hR h))
 case unOp op t x=>cases hc;exact ei hg _ rfl (aj8 hI hR h)
 case convert src ans x=>
  split at hc
  ·rename_i k k' hs hd
   cases hc
   exact ei hg _ rfl (ajR hs hd hI hR h)
  ·rename_i hs hd
   cases hc
   have hx:=hR.ev x
   refine ei hg _ rfl ?_
   simp only[al]at h
   split at h
   ·rename_i s he
    rw[he]at hx
    rw[hx.ay]
    exact aO.same hI (.v _) h (by simp[convert,aZ hs,aZ hd])
   ·exact h.elim
  ·cases hc;exact mA hg hI [x] (gD hR _) rfl h
 case makeInterface t x=>
  split at hc
  ·cases hc
  ·rename_i p6 aH ht
   cases hc
   refine ei hg (Instr.makeInterface t (a.eval x)) rfl (aO.same hI (.dN t _ _ (hR.ev x)) h ?_)
   cases p6<;>first|exact(aH _ rfl).elim|simp[Instr.makeInterface,aZ ht]
  ·cases hc
 case makeFunc fn first captured=>
  cases hc
  simp only[al]at h
  split at h
  ·rename_i l1 l2 h1 h2
   have e1:=zh _ _ _ (gD hR first.toList) h1
   have e2:=zh _ _ _ (gD hR captured.toList) h2
   refine ei hg (Instr.makeFunc fn (first.map a.eval) (captured.map a.eval)) rfl (aO.same hI (.v _) h ?_)
   have e3:first.map a.eval=l1.toArray:=by apply YB;rw[← e1];simp
   have e4:captured.map a.eval=l2.toArray:=by apply YB;rw[← e2];simp
   simp[Instr.makeFunc,e3,e4]
  ·split at h
   ·rename_i f
    refine ei hg (Instr.makeFunc (.func f) (first.map a.eval) (captured.map a.eval)) rfl (aO.same hI (R.ahG (gD hR first.toList) (gD hR captured.toList)) h ?_)
    simp only[Instr.makeFunc,Sem.run_pure]
    congr 2<;>(apply YB;simp)
   ·exact h.elim
 case slice t x lo hi mx=>
  cases mx with
  |none=>
   simp only at hc
   split at hc
   ·rename_i e ht
    split at hc
    ·rename_i i cK
     cases hc
     exact ei hg _ rfl (aj6 ht cK hI hR h)
    ·cases hc
   ·cases hc;exact mA hg hI (x::(lo.toList++hi.toList)) (gD hR _) rfl h
  |some m=>cases hi with
   |none=>simp at hc
   |some h0=>simp only[Z1]at hc;subst hc;exact mA hg hI (x::(lo.toList++[h0,m])) (gD hR _) rfl h
 case fieldAddr t x i=>
  split at hc
  ·rename_i fs ht
   split at hc
   ·rename_i f hf
    split at hc
    ·rename_i k hk
     split at hc
     ·rename_i h0
      cases hc
      exact ei hg _ rfl (ajU ht hf hk h0 hI hR h)
     ·cases hc
    ·cases hc
   ·cases hc
  ·cases hc
 case field t x i=>
  split at hc
  ·rename_i fs ht
   split at hc
   ·rename_i f hf
    obtain⟨⟨g,n⟩,Cg,rfl⟩:=Z7.1 hc
    exact ei hg _ rfl (ajV ht hf Cg hI hR h)
   ·cases hc
  ·cases hc
 case indexAddr t x i=>
  split at hc
  ·rename_i e ht
   split at hc
   ·rename_i k hk;cases hc;exact ei hg _ rfl (ajW ht hk hI hR h)
   ·cases hc
  ·rename_i n e ht
   split at hc
   ·rename_i k hk;cases hc;exact ei hg _ rfl (ajX ht hk hI hR h)
   ·cases hc
  ·cases hc
 case index t x i=>
  split at hc
  ·rename_i ht;cases hc;exact ei hg _ rfl (ajY ht hI hR h)
  ·cases hc;exact mA hg hI [x,i] (gD hR _) rfl h
 case makeMap t r=>
  cases r with
  |none=>cases hc;exact mA hg hI [] (gD hR _) rfl h
  |some r=>cases hc
 case insert t m k x=>cases hc;exact mA hg hI [m,k,x] (gD hR _) rfl h
 case mapUpdate t m k x=>cases hc;exact mA hg hI [m,k,x] (gD hR _) rfl h
 case mapEntry t m k=>cases hc;exact mA hg hI [m,k] (gD hR _) rfl h
 case entryStore t m k x=>cases hc;exact mA hg hI [m,k,x] (gD hR _) rfl h
 case lookup t m k ok=>cases hc;exact mA hg hI [m,k] (gD hR _) rfl h
 case makeSlice t n c=>cases hc;exact mA hg hI [n,c] (gD hR _) rfl h
 case extract x i=>cases hc;exact ei hg _ rfl (ajT hI hR h)
 case panic x=>
  cases hc
  simp only[al]at h
  split at h
  ·rename_i t y e
   split at h
   ·rename_i v e2
    have hx:=ct.ev hR x
    rw[e]at hx
    obtain⟨u,hu,hy⟩:=hx.Tq
    have h2:[u]=[v]:=zh [y] [u] [v] (RL.cons hy RL.nil) e2
    have h3:u=v:=by simpa using h2
    subst h3
    have hr:(execOp a.eval ⟨dst,.panic x,ty,pos,after,guard⟩).run P w= .halt (.panic (.iface t u)) w:=by
     simp[execOp,hu,Instr.panic,Sem.run_bind]
    simp only[Oper.wp,hr,Oper.upon]
    exact hg.gL M _ σ w (Mem.le.refl _) hI h
   ·exact h.elim
  ·exact h.elim
 case call c=>
  split at hc
  case h_2=>
   split at hc
   ·cases hc;exact mA hg hI c.args.toList (gD hR _) rfl h
   ·cases hc
  rename_i aoe gU
  cases hc
  replace hc:=gU
  obtain⟨callee,args,argTypes⟩:=c
  unfold Ou at hc
  split at hc
  ·rename_i f jW
   simp only at jW;subst jW
   split at hc
   ·rename_i bE
    cases hc
    refine MW hg hI (gD hR args.toList) h ?_
    have e:(args.toList.map a.eval).toArray=args.map a.eval:=by apply YB;simp
    simp only[e]
    simp[execOp,resolve,Deferred.ofValue,invoke,Act.eval,Mi bE]
   ·cases hc
  ·rename_i f hnf jW
   simp only at jW;subst jW
   cases hc
   simp only[al]at h
   split at h
   ·rename_i g b c he
    obtain⟨bE,h⟩:=h
    have hf:=hR.ev f
    rw[he]at hf
    refine MW hg hI (RL.append (RL.append (RL.exact b.toList) (gD hR args.toList)) (RL.exact c.toList)) h ?_
    simp[execOp,resolve,Deferred.ofValue,invoke,hf.ay,Mi bE]
   ·rename_i g b c he
    obtain⟨bE,h⟩:=h
    have hf:=hR.ev f
    rw[he]at hf
    obtain⟨va,vc,hv,ha,hc⟩:=hf.LG
    refine MW hg hI (RL.append (RL.append ha (gD hR args.toList)) hc) h ?_
    simp[execOp,resolve,Deferred.ofValue,invoke,hv,Mi bE]
   ·exact h.elim
  ·rename_i jW
   simp only at jW;subst jW
   simp only at hc
   split at hc
   ·rename_i x t hx rY
    have e1:args= #[x]:=by apply YB;simpa using hx
    have e2:argTypes= #[t]:=by apply YB;simpa using rY
    subst e1 e2
    split at hc
    ·rename_i ht;cases hc;exact ei hg (Builtin.len_ #[t] ty #[a.eval x]) (by simp[execOp,resolve,invoke,builtin]) (aj0 ht hI hR h)
    ·rename_i e ht;cases hc;exact ei hg (Builtin.len_ #[t] ty #[a.eval x]) (by simp[execOp,resolve,invoke,builtin]) (ajZ ht hI hR h)
    ·cases hc
   ·cases hc
  ·rename_i jW
   simp only at jW;subst jW
   simp only at hc
   split at hc
   ·rename_i x y t u hx rY
    have e1:args= #[x,y]:=by apply YB;simpa using hx
    have e2:argTypes= #[t,u]:=by apply YB;simpa using rY
    subst e1 e2
    split at hc
    ·rename_i e e' ht hu
     split at hc
     ·rename_i i hi
      split at hc
      ·rename_i z hz
       split at hc
       ·rename_i hp
        cases hc
        exact ei hg (Builtin.append_ #[t,u] ty #[a.eval x,a.eval y]) (by simp[execOp,resolve,invoke,builtin]) (UF ht (.inl ⟨_,hu⟩) hi hz hp.1 hp.2.1 hp.2.2 hI hR h)
       ·cases hc
      ·cases hc
     ·cases hc
    ·rename_i e ht hu
     split at hc
     ·rename_i i hi
      split at hc
      ·rename_i z hz
       split at hc
       ·rename_i hp
        cases hc
        exact ei hg (Builtin.append_ #[t,u] ty #[a.eval x,a.eval y]) (by simp[execOp,resolve,invoke,builtin]) (UF ht (.inr hu) hi hz hp.1 hp.2.1 hp.2.2 hI hR h)
       ·cases hc
      ·cases hc
     ·cases hc
    ·cases hc
   ·cases hc
  ·rename_i jW
   simp only at jW;subst jW
   simp only at hc
   split at hc
   ·rename_i x y hx
    have e1:args= #[x,y]:=by apply YB;simpa using hx
    subst e1
    cases hc
    exact ei hg (Builtin.max_ argTypes ty #[a.eval x,a.eval y]) (by simp[execOp,resolve,invoke,builtin]) (aj2 hI hR h)
   ·cases hc
  ·rename_i jW
   simp only at jW;subst jW
   simp only at hc
   split at hc
   ·rename_i x y hx
    have e1:args= #[x,y]:=by apply YB;simpa using hx
    subst e1
    cases hc
    exact ei hg (Builtin.min_ argTypes ty #[a.eval x,a.eval y]) (by simp[execOp,resolve,invoke,builtin]) (aj3 hI hR h)
   ·cases hc
  ·cases hc
end
end Go.Sx
namespace Go.Sx
def waits(ops:Array Oper)(i j:Nat):Bool:=((ops[i]?).map fun o=>o.after.toList.any fun e=>Region.binds .any e && Nat.beq e.on j).getD false
def uo(ops:Array Oper):Bool:=(List.range ops.size).all fun i=>((ops[i]?).map fun o=>o.after.toList.all fun e=> !Region.binds .any e || Nat.blt e.on i).getD false
def u9(ops:Array Oper)(k:Nat):Bool:=Nat.ble k ops.size && (List.range ops.size).all fun i=>Nat.blt i k || (List.range i).all fun j=>waits ops i j
def ew(ops:Array Oper)(listed:Nat→Bool):List Nat:=
 (List.range ops.size).filter fun i=> !listed i && ((ops[i]?).map (·.after.toList.all fun e=> !Region.binds .any e || listed e.on)).getD false
def jH(ops:Array Oper):Nat→Nat→(Nat→Bool)→List Nat
 |0,_,_=>[]
 |fuel+1,t,listed=>match(ew ops listed)[t % (ew ops listed).length]? with
  |some i=>i::jH ops fuel (t / (ew ops listed).length) fun j=>listed j || Nat.beq i j
  |none=>[]
theorem aef(ops:Array Oper):∀ (fuel t:Nat) (listed:Array Bool) (acc:List Nat) (p:Nat→Bool),listed.size=ops.size→(∀ i,i<ops.size→listed.getD i true=p i∧listed.getD i false=p i)→(∀ i,i<ops.size→∀ o,ops[i]? =some o→∀ e∈o.after,Region.binds .any e=true→e.on<ops.size)→
  Region.linearise.go .any ops fuel t listed acc=acc.reverse++jH ops fuel t p:=by
 intro fuel
 induction fuel with
 |zero=>intro t listed acc p _ _ _;simp[Region.linearise.go,jH]
 |succ fuel ih=>
  intro t listed acc p aY hp he
  have hr:((List.range ops.size).filter fun i=> !listed.getD i true && ((ops[i]?).map (·.after.all fun e=> !Region.binds .any e || listed.getD e.on false)).getD false)=ew ops p:=by
   unfold ew
   simp only[Yl]
   refine List.filter_congr fun i hi=> ?_
   have cK:i<ops.size:=YT.1 hi
   rw[(hp i cK).1]
   congr 1
   have ho:ops[i]? =some ops[i]:=Zy cK
   rw[ho]
   simp only[ZD,Zk]
   rw[YJ,Zu,Zu]
   refine forall_congr' fun e=>forall_congr' fun hm=> ?_
   cases hb:Region.binds .any e with
   |false=>simp
   |true=>rw[(hp e.on (he i cK _ ho e hm hb)).2]
  simp only[Region.linearise.go,jH,hr]
  cases hi:(ew ops p)[t % (ew ops p).length]? with
  |none=>simp
  |some i=>
   simp only
   have Kk:i<ops.size:=by
    have:=YS hi
    unfold ew at this
    exact YT.1 (Y5.1 this).1
   rw[ih (t / (ew ops p).length) (listed.setIfInBounds i true) (i::acc) (fun j=>p j || Nat.beq i j) (by simpa using aY) (fun j hj=> ?_) he]
   ·simp
   ·have h1:=hp j hj
    by_cases e:i=j
    ·subst e
     simp[ZP,Zb,aY,Kk,YL]
    ·have e':Nat.beq i j=false:=by
      cases hb:Nat.beq i j with
      |false=>rfl
      |true=>exact absurd (Z2 hb) e
     simp only[ZP,Zb,e',Bool.or_false]at h1 ⊢
     simpa[e]using h1
theorem SM(ops:Array Oper)(hf:uo ops=true)(t:Nat):Region.linearise .any ops t=jH ops ops.size t fun i=> !Nat.blt i ops.size:=by
 unfold Region.linearise
 rw[aef ops ops.size t _ [] (fun i=> !Nat.blt i ops.size) (by simp) (fun i hi=> ?_) (fun i hi o ho e he hb=> ?_)]
 ·rfl
 ·have:Nat.blt i ops.size=true:=by rw[YC];exact hi
  simp[this,ZP,Array.getElem?_replicate,hi]
 ·unfold uo at hf
  simp only[Yl]at hf
  have h1:=ZB.1 hf i (YT.2 hi)
  rw[ho]at h1
  simp only[ZD,Zk,Zu]at h1
  have h2:=h1 e he
  rw[hb]at h2
  simp only[Bool.not_true,Bool.false_or,YC]at h2
  omega
theorem PI{α:Type}(p q:α→Bool):∀ (l:List α),(∀ x∈l,q x=true→p x=true)→(∃ x∈l,p x=true∧q x=false)→(l.filter q).length+1≤(l.filter p).length
 |[],_,⟨x,hx,_⟩=>by cases hx
 |a::l,h,⟨x,hx,h1,h2⟩=>by
  rcases ZT.1 hx with rfl|hx
  ·rw[Yn,Yn,Z5 (by simp[h2]),ZW h1,Z8]
   have:(l.filter q).length≤(l.filter p).length:=by
    rw[← List.countP_eq_length_filter,← List.countP_eq_length_filter]
    exact List.countP_mono_left fun y hy hq=>h y (ZO _ hy) hq
   omega
  ·have ih:=PI p q l (fun y hy=>h y (ZO _ hy)) ⟨x,hx,h1,h2⟩
   grind
theorem Ew{ops:Array Oper}(hf:uo ops=true){i:Nat}(hi:i<ops.size):∀ e∈ops[i].after,Region.binds .any e=true→e.on<i:=fun e he hb=>by
 unfold uo at hf
 simp only[Yl]at hf
 have h1:=ZB.1 hf i (YT.2 hi)
 rw[Zy hi]at h1
 simp only[ZD,Zk,Zu]at h1
 have h2:=h1 e he
 rw[hb]at h2
 simpa only[Bool.not_true,Bool.false_or,YC]using h2
theorem z6{ops:Array Oper}{k:Nat}(hl:u9 ops k=true){i j:Nat}(hi:i<ops.size)(hk:k≤i)(hj:j<i):∃ e∈ops[i].after,Region.binds .any e=true∧e.on=j:=by
 unfold u9 at hl
 rw[Z6]at hl
 have h1:=ZB.1 hl.2 i (YT.2 hi)
 rw[YM]at h1
 rcases h1 with h1|h1
 ·rw[YC]at h1;omega
 ·have h2:=ZB.1 h1 j (YT.2 hj)
  unfold waits at h2
  simp only[Xz]at h2
  rw[Zy hi]at h2
  simp only[ZD,Zk]at h2
  rw[Xq]at h2
  obtain⟨m,hm,h3⟩:=h2
  rw[Z6]at h3
  exact⟨_,X1 hm,h3.1,Z2 h3.2⟩
theorem ahf{ops:Array Oper}{k:Nat}(hl:u9 ops k=true):k≤ops.size:=by
 unfold u9 at hl
 rw[Z6]at hl
 exact ZR hl.1
theorem vg{ops:Array Oper}{p:Nat→Bool}{i:Nat}:i∈ew ops p↔∃ h:i<ops.size,p i=false∧∀ e∈ops[i].after,Region.binds .any e=true→p e.on=true:=by
 unfold ew
 simp only[Yl]
 rw[Y5,YT]
 constructor
 ·rintro⟨h,h2⟩
  rw[Z6,Zy h]at h2
  simp only[ZD,Zk,Zu]at h2
  refine⟨h,by simpa using h2.1,fun e he hb=> ?_⟩
  have:=h2.2 e he
  rw[hb]at this
  simpa using this
 ·rintro⟨h,h1,h2⟩
  refine⟨h,?_⟩
  rw[Z6,Zy h]
  simp only[ZD,Zk,Zu]
  refine⟨by simpa using h1,fun e he=> ?_⟩
  cases hb:Region.binds .any e with
  |false=>rfl
  |true=>simpa using h2 e he hb
theorem aiv{ops:Array Oper}{k:Nat}(hf:uo ops=true)(hl:u9 ops k=true):∀ (d m fuel t:Nat) (q:Nat→Bool),ops.size-m=d→k≤m→d≤fuel→(∀ i,q i=(Nat.blt i m || !Nat.blt i ops.size))→m≤ops.size→jH ops fuel t q=List.range' m d:=by
 intro d
 induction d with
 |zero=>
  intro m fuel t q hd _ _ hq hm
  have hr:ew ops q=[]:=by
   rw[List.eq_nil_iff_forall_not_mem]
   intro i hi
   obtain⟨h,h1,_⟩:=vg.1 hi
   grind
  cases fuel with
  |zero=>rfl
  |succ fuel=>simp[jH,hr]
 |succ d ih=>
  intro m fuel t q hd hk hfu hq hm
  cases fuel with
  |zero=>omega
  |succ fuel=>
   have Kt:m<ops.size:=by omega
   have uC:Nat.blt m m=false:=by cases hb:Nat.blt m m with|false=>rfl|true=>simp_all
   have Qt:Nat.blt m ops.size=true:=by simp_all
   have hr:ew ops q=[m]:=by
    have j0:∀ i,i∈ew ops q↔i=m:=fun i=>by
     rw[vg]
     constructor
     ·rintro⟨h,h1,h2⟩
      rcases XG i m with h3|h3|h3
      ·rw[hq]at h1
       have:Nat.blt i m=true:=by rw[YC];grind
       grind
      ·exact h3
      ·obtain⟨e,he,hb,qs⟩:=z6 hl h (by omega) h3
       have:=h2 e he hb
       rw[qs,hq,uC,Qt]at this;cases this
     ·rintro rfl
      refine⟨Kt,by rw[hq,uC,Qt];rfl,fun e he hb=> ?_⟩
      have:=Ew hf Kt e he hb
      rw[hq]
      have:Nat.blt e.on i=true:=by rw[YC];exact this
      rw[this];rfl
    have hnd:(ew ops q).Nodup:=List.Pairwise.filter _ List.nodup_range
    match hL:ew ops q,j0,hnd with
    |[],hs,_=>exact absurd ((hs m).2 rfl) (by simp)
    |[x],hs,_=>rw[(hs x).1 (by simp)]
    |x::y::l,hs,hn=>
     have h1:=(hs x).1 (by simp)
     have h2:=(hs y).1 (by simp)
     simp[h1,h2]at hn
   simp only[jH,hr,YZ,Nat.mod_one,List.getElem?_cons_zero]
   rw[List.range'_succ,ih (m+1) fuel _ _ (by omega) (by omega) (by omega) (fun i=> ?_) (by omega)]
   rw[hq]
   by_cases h1:i<m
   ·have e1:Nat.blt i m=true:=by rw[YC];exact h1
    have e2:Nat.blt i (m+1)=true:=by rw[YC];omega
    rw[e1,e2];rfl
   ·have e1:Nat.blt i m=false:=by cases hb:Nat.blt i m with|false=>rfl|true=>rw[YC]at hb;omega
    by_cases h2:i=m
    ·subst h2
     have e2:Nat.blt i (i+1)=true:=by rw[YC];omega
     rw[e2,YL];simp
    ·have e2:Nat.blt i (m+1)=false:=by cases hb:Nat.blt i (m+1)with|false=>rfl|true=>rw[YC]at hb;omega
     have e3:Nat.beq m i=false:=by cases hb:Nat.beq m i with|false=>rfl|true=>exact absurd (Z2 hb).symm h2
     rw[e1,e2,e3];simp
theorem TM(ops:Array Oper):∀ (fuel t:Nat) (p:Nat→Bool) {i:Nat},i∈jH ops fuel t p→i<ops.size
 |0,_,_,_,h=>by cases h
 |fuel+1,t,p,i,h=>by
  unfold jH at h
  split at h
  ·rename_i j hj
   rcases ZT.1 h with rfl|h
   ·obtain⟨h1,_⟩:=vg.1 (YS hj);grind
   ·exact TM ops fuel _ _ h
  grind
theorem aiw{ops pre:Array Oper}{k:Nat}(hf:uo ops=true)(hl:u9 ops k=true)(hp:pre.size=k)(he:∀ i (h:i<k) (h':i<ops.size) (zo:i<pre.size),pre[i]=ops[i]):
  ∀ (fuel t:Nat) (p q:Nat→Bool),((List.range k).filter fun i=> !p i).length≤fuel→(∀ i,q i=if i<k then p i else !Nat.blt i ops.size)→jH ops (fuel+(ops.size-k)) t q=jH pre fuel t p++List.range' k (ops.size-k):=by
 have hkn:=ahf hl
 have done:∀ (fuel t:Nat) (p q:Nat→Bool),(∀ i,i<k→p i=true)→(∀ i,q i=if i<k then p i else !Nat.blt i ops.size)→jH ops (fuel+(ops.size-k)) t q=List.range' k (ops.size-k):=fun fuel t p q cO hq=>
  aiv hf hl _ k _ t q rfl (ZM _) (by omega) (fun i=>by
   rw[hq]
   by_cases h:i<k
   ·have e1:Nat.blt i k=true:=by rw[YC];exact h
    rw[ZW h,cO i h,e1];rfl
   ·have e1:Nat.blt i k=false:=by cases hb:Nat.blt i k with|false=>rfl|true=>rw[YC]at hb;omega
    rw[Z5 h,e1];rfl) hkn
 intro fuel
 induction fuel with
 |zero=>
  intro t p q hc hq
  have h0:=Zx (Nat.le_zero.1 hc)
  exact done 0 t p q (fun i hi=>by
   have:=Yb.1 h0 i (YT.2 hi)
   simpa using this) hq
 |succ fuel ih=>
  intro t p q hc hq
  by_cases cO:∀ i,i<k→p i=true
  ·have hr:ew pre p=[]:=by
    rw[List.eq_nil_iff_forall_not_mem]
    intro i hi
    obtain⟨h,h1,_⟩:=vg.1 hi
    rw[cO i (by omega)]at h1;cases h1
   rw[done (fuel+1) t p q cO hq]
   simp[jH,hr]
  ·obtain⟨i0,eB,uJ⟩:∃ i0,(i0<k∧p i0=false)∧∀ j,j<i0→p j=true:=by
    have:∃ i,i<k∧p i=false:=by
     refine Classical.byContradiction fun hn=>cO fun i hi=> ?_
     cases hpi:p i with
     |true=>rfl
     |false=>exact absurd ⟨i,hi,hpi⟩ hn
    obtain⟨n,hn⟩:=this
    induction n using Nat.strongRecOn with
    |ind n ihn=>
     by_cases h:∃ j,j<n∧p j=false
     ·obtain⟨j,hj,KB⟩:=h;exact ihn j hj ⟨by omega,KB⟩
     ·refine⟨n,hn,fun j hj=> ?_⟩
      cases KB:p j with
      |true=>rfl
      |false=>exact absurd ⟨j,hj,KB⟩ h
   have Cw:∀ j,j<k→q j=p j:=fun j hj=>by rw[hq,ZW hj]
   have hr:ew ops q=ew pre p:=by
    have fi:∀ i,i∈ew ops q↔i∈ew pre p:=fun i=>by
     rw[vg,vg]
     constructor
     ·rintro⟨h,h1,h2⟩
      by_cases iw:i<k
      ·refine⟨by omega,by rw[← Cw i iw];exact h1,fun e o7 hb=> ?_⟩
       rw[he i iw h (by omega)]at o7
       have h3:=Ew hf h e o7 hb
       rw[← Cw _ (by omega)];exact h2 e o7 hb
      ·obtain⟨e,o7,hb,qs⟩:=z6 hl h (by omega) (show i0<i by omega)
       have:=h2 e o7 hb
       rw[qs,Cw i0 eB.1,eB.2]at this;cases this
     ·rintro⟨h,h1,h2⟩
      have iw:i<k:=by omega
      refine⟨by omega,by rw[Cw i iw];exact h1,fun e o7 hb=> ?_⟩
      have aeH:e∈pre[i].after:=by rw[he i iw (by omega) h];exact o7
      have h3:=Ew hf (show i<ops.size by omega) e o7 hb
      rw[Cw _ (by omega)];exact h2 e aeH hb
    have e1:ew ops q=(List.range k).filter (fun i=>decide (i∈ew pre p)):=by
     unfold ew at fi ⊢
     have e2:List.range ops.size=List.range k++List.range' k (ops.size-k):=by
      have h:= @List.range'_append_1 0 k (ops.size-k)
      rw[ZA,show k+(ops.size-k)=ops.size by omega]at h
      rw[Xp,Xp,← h]
     rw[e2,XQ]
     have e3:(List.range' k (ops.size-k)).filter (fun i=> !q i && ((ops[i]?).map (·.after.toList.all fun e=> !Region.binds .any e || q e.on)).getD false)=[]:=by
      rw[Yb]
      intro i hi gU
      have h1:=(fi i).1 (Y5.2 ⟨by rw[e2];exact Zp _ hi,gU⟩)
      have h2:=YT.1 (Y5.1 h1).1
      have h3:=List.mem_range'.1 hi
      omega
     rw[e3,YX]
     refine List.filter_congr fun i hi=> ?_
     have h1:=fi i
     rw[Y5,Y5]at h1
     have h2:i∈List.range ops.size:=YT.2 (by have:=YT.1 hi;omega)
     have h3:i∈List.range pre.size:=YT.2 (by have:=YT.1 hi;omega)
     rw[YJ,ZN,Y5]
     constructor
     ·intro h;exact h1.1 ⟨h2,h⟩
     ·intro h;exact(h1.2 h).2
    rw[e1]
    conv=>rhs;unfold ew
    rw[hp]
    refine List.filter_congr fun i hi=> ?_
    rw[YJ,ZN]
    unfold ew
    rw[Y5,hp]
    exact⟨fun h=>h.2,fun h=>⟨hi,h⟩⟩
   have aH:ew pre p≠[]:=fun e=>by
    have:i0∈ew pre p:=vg.2 ⟨by omega,eB.2,fun e o7 hb=>by
     rw[he i0 eB.1 (by omega) (by omega)]at o7
     exact uJ _ (Ew hf (show i0<ops.size by omega) e o7 hb)⟩
    rw[e]at this;cases this
   have hlen:0<(ew pre p).length:=XB.2 aH
   obtain⟨i,hi⟩:∃ i,(ew pre p)[t % (ew pre p).length]? =some i:=⟨_,ZY (Nat.mod_lt _ hlen)⟩
   have Kk:=YS hi
   obtain⟨h1,h2,_⟩:=vg.1 Kk
   rw[show fuel+1+(ops.size-k)=(fuel+(ops.size-k))+1 by omega]
   simp only[jH,hr,hi]
   rw[ZH,ih (t / (ew pre p).length) (fun j=>p j || Nat.beq i j) (fun j=>q j || Nat.beq i j) ?_ (fun j=> ?_)]
   ·have:=PI (fun i=> !p i) (fun j=> !(p j || Nat.beq i j)) (List.range k) (fun x _ hx=>by simp at hx ⊢;exact hx.1) ⟨i,YT.2 (by omega),by simp[h2],by simp[YL]⟩
    omega
   ·rw[hq]
    by_cases hj:j<k
    ·rw[ZW hj,ZW hj]
    ·rw[Z5 hj,Z5 hj]
     have:Nat.beq i j=false:=by cases hb:Nat.beq i j with|false=>rfl|true=>have:=Z2 hb;omega
     rw[this,Bool.or_false]
end Go.Sx
