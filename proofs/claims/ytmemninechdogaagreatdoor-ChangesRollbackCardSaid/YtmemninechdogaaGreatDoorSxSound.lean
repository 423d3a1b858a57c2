import Derived.Test.YtmemninechdogaaGreatDoorSxComp
set_option linter.all false
namespace Go.Sx
open Go.RowKit
section
variable {P:Program}[Glob P]{M:Mem}{w0:Base}{w:World}{X:Store}{K:AV->Store->Prop}{rg:ag}{a:Act}{cfg:Nat->Nat}{d:Option Nat}{E:List PanicEntry->Store->Prop}
structure zb(P:Program)[Glob P](M:Mem)(w0:Base)(w:World)(K:AV->Store->Prop)(E:List PanicEntry->Store->Prop)(o:Oper)(a:Act)(next:Act->World->Prop)(Q:Exit->Act->World->Prop):Prop where
 val:∀(M':Mem) (x:AV) (af:Store) (v:Value) (w':World),M.le M'->Inv P M' w0 af w'->R M' x v->K x af->next (a.put o.dst v) w'
 ke:∀(M':Mem) (ch:List PanicEntry) (af:Store) (w':World),M.le M'->Inv P M' w0 af w'->E ch af->Q (.panic ch) a w'
theorem dP{o:Oper}{next:Act->World->Prop}{Q:Exit->Act->World->Prop}(hg:zb P M w0 w K E o a next Q)(s:Sem Value)(he:execOp a.eval o=(do pure (.value (<-s))))(h:aQ P M w0 K (s.run P w)):o.wp P a w next Q:=by obtain⟨v,w',M',x,af,hr,hM,hI,hR,hk⟩:=h;simp only[Oper.wp,he,Sem.run_bind,hr,Result.andThen_ok,Sem.run_pure,Oper.upon];exact hg.val M' x af v w' hM hI hR hk
theorem NJ{M:Mem}:∀(xs:List AV) (vs l:List Value),RL M xs vs->iq xs=some l->vs=l
 |[],vs,l,h,e=>by simp[iq]at e;subst e;exact h.qD|x::xs,vs,l,h,e=>by
  obtain⟨v,vs',rfl,hx,di⟩:=h.aZ;unfold iq at e;split at e
  .simp_all
  .rename_i y ys heq;cases heq;obtain⟨l',h1,rfl⟩:=Z8.1 e;rw[hx.aC,NJ xs vs' l' di h1]
  grind
theorem xu{M:Mem}:∀(xs:List AV) (vs l:List Value),RL M xs vs->bR xs=some l->vs=l
 |[],vs,l,h,e=>by simp[bR]at e;subst e;exact h.qD|x::xs,vs,l,h,e=>by
  obtain⟨v,vs',rfl,hx,di⟩:=h.aZ;unfold bR at e;split at e
  .simp_all
  .rename_i y ys heq;cases heq;obtain⟨l',h1,rfl⟩:=Z8.1 e;rw[hx.aC,xu xs vs' l' di h1]
  .rename_i tg b o ys heq;cases heq;obtain⟨l',h1,rfl⟩:=Z8.1 e;rw[hx.pb,xu xs vs' l' di h1]
  .rename_i zs ys heq;cases heq;split at e
   .rename_i cs hc;obtain⟨l',h1,rfl⟩:=Z8.1 e;obtain⟨us,rfl,D5⟩:=hx.qq;rw[NJ zs us cs D5 hc,xu xs vs' l' di h1]
   grind
  grind
theorem KN{f:FuncId}(h:im P f=true)(args:Array Value)(w:World):(callFunc f args).run P w= .ok (.enter f args) w:=by
 unfold im at h;split at h
 .rename_i fn hf;simp at h;obtain⟨c,hb⟩:=X7.1 h.2;simp[callFunc,hf,h.1,hb]
 grind
theorem Lq{o:Oper}{next:Act->World->Prop}{Q:Exit->Act->World->Prop}{f:FuncId}{as:List AV}{cs:List Value}(hg:zb P M w0 w K E o a next Q)(hI:Inv P M w0 X w)(hl:RL M as cs)(h:pA P f as X K E)
  (he:(execOp a.eval o).run P w= .ok (.enter f cs.toArray) w):o.wp P a w next Q:=by
 obtain⟨Qs,hs,h1,h2⟩:=h;simp only[Oper.wp,he,Oper.upon];refine(hs M w0 w cs hI hl).mono fun e w' ⟨M',r,af,hM,bg,hr,hq⟩=>?_;cases r with
 |ret x=>
  cases e with
  |returned v=>exact hg.val M' x af v w' hM bg hr (h1 x af hq)|_=>exact hr.elim
 |ke ch=>
  cases e with
  |panicked GY=>have:GY=ch:=hr;subst this;exact hg.ke M' _ af w' hM bg (h2 _ af hq)|_=>exact hr.elim
theorem mn{o:Oper}{next:Act->World->Prop}{Q:Exit->Act->World->Prop}(hg:zb P M w0 w K E o a next Q)(hI:Inv P M w0 X w)(args:List Operand)(hl:RL M (aL rg args) (args.map a.eval)){ti:List TI}(bu:ey P o.op=ti)(h:fH P o.op o.type ti args (aL rg args) X K):o.wp P a w next Q:=by
 obtain⟨nx,w',M',x,v,af,hr,hn,hM,bg,hx,hk⟩:=h bu M w0 w a.eval hI hl;have hr:(execOp a.eval o).run P w= .ok nx w':=hr;simp only[Oper.wp,hr,Oper.upon];cases nx with
 |value u=>have:v=u:=hn;subst this;exact hg.val M' x af v w' hM bg hx hk|skip=>have:v=undef:=hn;subst this;exact hg.val M' x af undef w' hM bg hx hk|_=>exact hn.elim
theorem abh{o:Oper}{mX:aB}(hc:CM P o=some mX)(h:ak P cfg d rg X K E mX)(hI:Inv P M w0 X w)(hR:bS M rg a){next:Act->World->Prop}{Q:Exit->Act->World->Prop}(hg:zb P M w0 w K E o a next Q):
  o.wp P a w next Q:=by
 obtain⟨dst,op,ty,pos,after,guard⟩:=o;unfold CM at hc;cases op<;>simp only[reduceCtorEq]at hc
 case move x=>cases hc;exact dP hg (pure (a.eval x)) rfl (Te hI hR h)
 case assign x=>cases hc;exact dP hg (pure (a.eval x)) rfl (Te hI hR h)
 case pick c x y=>cases hc;exact dP hg (do pure (if <-asBool (a.eval c)then a.eval x else a.eval y)) (by simp[execOp]) (akI hI hR h)
 case alloc e=>
  split at hc
  .rename_i i hi;obtain⟨z,hz,rfl⟩:=Z8.1 hc;exact dP hg _ rfl (akr hi hz hI h)
  .cases hc
 case box e x=>cases hc;exact dP hg _ rfl (aks hI hR h)
 case build t parts=>
  split at hc
  .rename_i fs i ht hi;split at hc
   .rename_i bW;split at hc
    .rename_i z ps hz aw;cases hc;exact dP hg _ rfl (akt ht hi hz bW aw hI hR h)
    .cases hc
   .cases hc
  .cases hc
 case buildSlice t n parts=>
  split at hc
  .rename_i e ht;split at hc
   .rename_i i hi;split at hc
    .rename_i z hz;split at hc
     .rename_i hp;cases hc;exact dP hg _ rfl (akH ht hi hz hp.1 hp.2.1 hI hR h)
     .cases hc
    .cases hc
   .cases hc
  .cases hc
 case load t x=>
  obtain⟨⟨g,n⟩,ht,rfl⟩:=Z8.1 hc;exact dP hg _ rfl (akE ht hI hR h)
 case store t x y=>
  obtain⟨⟨g,n⟩,ht,rfl⟩:=Z8.1 hc;obtain⟨w',af,hr,bg,hk⟩:=akK ht hI hR h;simp only[Oper.wp,execOp,Sem.run_bind,hr,Result.andThen_ok,Sem.run_pure,Oper.upon];exact hg.val M _ af undef w' (Mem.le.refl _) bg (.v _) hk
 case nilCheck x=>
  cases hc;have hx:=hR.ev x;simp only[ak]at h;split at h
  .rename_i ad he;rw[he]at hx;exact dP hg (pure (a.eval x)) (by simp[execOp,hx.aC]) (aQ.same hI hx h rfl)
  .rename_i tg b o he;rw[he]at hx;exact dP hg (pure (a.eval x)) (by simp[execOp,hx.pb]) (aQ.same hI hx h rfl)
  .rename_i l he;rw[he]at hx;obtain⟨b,off,cs,hv,_⟩:=hx.uj;exact dP hg (pure (a.eval x)) (by simp[execOp,hv]) (aQ.same hI hx h rfl)
  .rename_i f b c he;rw[he]at hx;exact dP hg (pure (a.eval x)) (by simp[execOp,hx.aC]) (aQ.same hI hx h rfl)
  .rename_i f b c he;rw[he]at hx;obtain⟨va,vc,hv,_⟩:=hx.Kb;exact dP hg (pure (a.eval x)) (by simp[execOp,hv]) (aQ.same hI hx h rfl)
  .exact h.elim
 case binOp op t x y ty2=>
  have DD:∀neg,CK P neg t x y=some mX->aQ P M w0 K ((do eqGuard (if neg then .neq else .eql) t x y (a.eval x) (a.eval y);binOp (if neg then .neq else .eql) t (a.eval x) (a.eval y):Sem Value).run P w):=by
   intro neg hc;unfold CK at hc;split at hc
   .cases hc;have:=KS (t:=t) hI hR h;cases neg<;>exact this
   .cases hc;have:=KS (t:=t) hI hR h;cases neg<;>exact this
   .rename_i fs ht;split at hc
    .rename_i hp;obtain⟨ks,hk,rfl⟩:=Z8.1 hc;exact akv ht hp.1 hp.2 hk hI hR h
    .cases hc
   .rename_i ht;cases hc;exact BC (k:=.bool) ht hI hR h
   .rename_i e ht;cases hc;exact BC (k:=.slice) ⟨_,ht⟩ hI hR h
   .rename_i e ht;cases hc;exact BC (k:=.map) ⟨_,_,ht⟩ hI hR h
   .rename_i e ht;cases hc;exact BC (k:=.func) ⟨_,_,_,ht⟩ hI hR h
   .rename_i e ht;cases hc;exact BC (k:=.ptr) ⟨_,ht⟩ hI hR h
   .cases hc
  cases op
  case eql=>
   simp only at hc;split at hc
   .rename_i i he;cases hc;exact dP hg _ rfl (DD false he)
   .cases hc;exact mn hg hI [x,y] (gd hR _) rfl h
  case neq=>
   simp only at hc;split at hc
   .rename_i i he;cases hc;exact dP hg _ rfl (DD true he)
   .cases hc;exact mn hg hI [x,y] (gd hR _) rfl h
  all_goals(cases hc;exact dP hg _ rfl (KS (t:=t) hI hR h))
 case unOp op t x=>cases hc;exact dP hg _ rfl (akL hI hR h)
 case convert src amM x=>
  split at hc
  .rename_i k k' hs hd;cases hc;exact dP hg _ rfl (aku hs hd hI hR h)
  .rename_i hs hd;cases hc;have hx:=hR.ev x;refine dP hg _ rfl ?_;simp only[ak]at h;split at h
   .rename_i s he;rw[he]at hx;rw[hx.aC];exact aQ.same hI (.v _) h (by simp[convert,aX hs,aX hd])
   .exact h.elim
  .cases hc;exact mn hg hI [x] (gd hR _) rfl h
 case makeInterface t x=>
  split at hc
  .cases hc
  .rename_i dsc aW ht;cases hc;refine dP hg (Instr.makeInterface t (a.eval x)) rfl (aQ.same hI (.dD t _ _ (hR.ev x)) h ?_);cases dsc<;>first|exact(aW _ rfl).elim|simp[Instr.makeInterface,aX ht]
  .cases hc
 case makeFunc fn first captured=>
  cases hc;simp only[ak]at h;split at h
  .rename_i l1 l2 h1 h2;have e1:=xu _ _ _ (gd hR first.toList) h1;have e2:=xu _ _ _ (gd hR captured.toList) h2;refine dP hg (Instr.makeFunc fn (first.map a.eval) (captured.map a.eval)) rfl (aQ.same hI (.v _) h ?_);have e3:first.map a.eval=l1.toArray:=by apply Ym;rw[<-e1];simp
   have e4:captured.map a.eval=l2.toArray:=by apply Ym;rw[<-e2];simp
   simp[Instr.makeFunc,e3,e4]
  .split at h
   .rename_i f;refine dP hg (Instr.makeFunc (.func f) (first.map a.eval) (captured.map a.eval)) rfl (aQ.same hI (R.ahL (gd hR first.toList) (gd hR captured.toList)) h ?_);simp only[Instr.makeFunc,Sem.run_pure]
    congr 2<;>(apply Ym;simp)
   .exact h.elim
 case slice t x lo hi mx=>
  cases mx with
  |none=>
   simp only at hc;split at hc
   .rename_i e ht;split at hc
    .rename_i i cJ;cases hc;exact dP hg _ rfl (akJ ht cJ hI hR h)
    .cases hc
   .cases hc;exact mn hg hI (x::(lo.toList++hi.toList)) (gd hR _) rfl h
  |some m=>cases hi with
   |none=>simp at hc|some h0=>simp only[ZV]at hc;subst hc;exact mn hg hI (x::(lo.toList++[h0,m])) (gd hR _) rfl h
 case fieldAddr t x i=>
  split at hc
  .rename_i fs ht;split at hc
   .rename_i f hf;split at hc
    .rename_i k hk;split at hc
     .rename_i h0;cases hc;exact dP hg _ rfl (akx ht hf hk h0 hI hR h)
     .cases hc
    .cases hc
   .cases hc
  .cases hc
 case field t x i=>
  split at hc
  .rename_i fs ht;split at hc
   .rename_i f hf;obtain⟨⟨g,n⟩,hgn,rfl⟩:=Z8.1 hc;exact dP hg _ rfl (aky ht hf hgn hI hR h)
   .cases hc
  .cases hc
 case indexAddr t x i=>
  split at hc
  .rename_i e ht;split at hc
   .rename_i k hk;cases hc;exact dP hg _ rfl (akz ht hk hI hR h)
   .cases hc
  .rename_i n e ht;split at hc
   .rename_i k hk;cases hc;exact dP hg _ rfl (akA ht hk hI hR h)
   .cases hc
  .cases hc
 case index t x i=>
  split at hc
  .rename_i ht;cases hc;exact dP hg _ rfl (akB ht hI hR h)
  .cases hc;exact mn hg hI [x,i] (gd hR _) rfl h
 case makeMap t r=>
  cases r with
  |none=>cases hc;exact mn hg hI [] (gd hR _) rfl h|some r=>cases hc
 case insert t m k x=>cases hc;exact mn hg hI [m,k,x] (gd hR _) rfl h
 case mapUpdate t m k x=>cases hc;exact mn hg hI [m,k,x] (gd hR _) rfl h
 case mapEntry t m k=>cases hc;exact mn hg hI [m,k] (gd hR _) rfl h
 case entryStore t m k x=>cases hc;exact mn hg hI [m,k,x] (gd hR _) rfl h
 case lookup t m k ok=>cases hc;exact mn hg hI [m,k] (gd hR _) rfl h
 case makeSlice t n c=>cases hc;exact mn hg hI [n,c] (gd hR _) rfl h
 case extract x i=>cases hc;exact dP hg _ rfl (akw hI hR h)
 case panic x=>
  cases hc;simp only[ak]at h;split at h
  .rename_i t y e;split at h
   .rename_i v e2;have hx:=bS.ev hR x;rw[e]at hx;obtain⟨u,hu,hy⟩:=hx.R1;have h2:[u]=[v]:=xu [y] [u] [v] (RL.cons hy RL.nil) e2;have h3:u=v:=by simpa using h2
    subst h3;have hr:(execOp a.eval ⟨dst,.panic x,ty,pos,after,guard⟩).run P w= .halt (.panic (.iface t u)) w:=by simp[execOp,hu,Instr.panic,Sem.run_bind]
    simp only[Oper.wp,hr,Oper.upon];exact hg.ke M _ X w (Mem.le.refl _) hI h
   .exact h.elim
  .exact h.elim
 case call c=>
  split at hc
  case h_2=>
   split at hc
   .cases hc;exact mn hg hI c.args.toList (gd hR _) rfl h
   .cases hc
  rename_i amZ gG;cases hc;replace hc:=gG;obtain⟨callee,args,argTypes⟩:=c;unfold MZ at hc;split at hc
  .rename_i f jB;simp only at jB;subst jB;split at hc
   .rename_i bL;cases hc;refine Lq hg hI (gd hR args.toList) h ?_;have e:(args.toList.map a.eval).toArray=args.map a.eval:=by apply Ym;simp
    simp only[e];simp[execOp,resolve,Deferred.ofValue,invoke,Act.eval,KN bL]
   .cases hc
  .rename_i f hnf jB;simp only at jB;subst jB;cases hc;simp only[ak]at h;split at h
   .rename_i g b c he;obtain⟨bL,h⟩:=h;have hf:=hR.ev f;rw[he]at hf;refine Lq hg hI (RL.append (RL.append (RL.exact b.toList) (gd hR args.toList)) (RL.exact c.toList)) h ?_;simp[execOp,resolve,Deferred.ofValue,invoke,hf.aC,KN bL]
   .rename_i g b c he;obtain⟨bL,h⟩:=h;have hf:=hR.ev f;rw[he]at hf;obtain⟨va,vc,hv,ha,hc⟩:=hf.Kb;refine Lq hg hI (RL.append (RL.append ha (gd hR args.toList)) hc) h ?_;simp[execOp,resolve,Deferred.ofValue,invoke,hv,KN bL]
   .exact h.elim
  .rename_i jB;simp only at jB;subst jB;simp only at hc;split at hc
   .rename_i x t hx rD;have e1:args= #[x]:=by apply Ym;simpa using hx
    have e2:argTypes= #[t]:=by apply Ym;simpa using rD
    subst e1 e2;split at hc
    .rename_i ht;cases hc;exact dP hg (Builtin.len_ #[t] ty #[a.eval x]) (by simp[execOp,resolve,invoke,builtin]) (akD ht hI hR h)
    .rename_i e ht;cases hc;exact dP hg (Builtin.len_ #[t] ty #[a.eval x]) (by simp[execOp,resolve,invoke,builtin]) (akC ht hI hR h)
    .cases hc
   .cases hc
  .rename_i jB;simp only at jB;subst jB;simp only at hc;split at hc
   .rename_i x y t u hx rD;have e1:args= #[x,y]:=by apply Ym;simpa using hx
    have e2:argTypes= #[t,u]:=by apply Ym;simpa using rD
    subst e1 e2;split at hc
    .rename_i e e' ht hu;split at hc
     .rename_i i hi;split at hc
      .rename_i z hz;split at hc
       .rename_i hp;cases hc;exact dP hg (Builtin.append_ #[t,u] ty #[a.eval x,a.eval y]) (by simp[execOp,resolve,invoke,builtin]) (Tc ht (.inl ⟨_,hu⟩) hi hz hp.1 hp.2.1 hp.2.2 hI hR h)
       .cases hc
      .cases hc
     .cases hc
    .rename_i e ht hu;split at hc
     .rename_i i hi;split at hc
      .rename_i z hz;split at hc
       .rename_i hp;cases hc;exact dP hg (Builtin.append_ #[t,u] ty #[a.eval x,a.eval y]) (by simp[execOp,resolve,invoke,builtin]) (Tc ht (.inr hu) hi hz hp.1 hp.2.1 hp.2.2 hI hR h)
       .cases hc
      .cases hc
     .cases hc
    .cases hc
   .cases hc
  .rename_i jB;simp only at jB;subst jB;simp only at hc;split at hc
   .rename_i x y hx;have e1:args= #[x,y]:=by apply Ym;simpa using hx
    subst e1;cases hc;exact dP hg (Builtin.max_ argTypes ty #[a.eval x,a.eval y]) (by simp[execOp,resolve,invoke,builtin]) (akF hI hR h)
   .cases hc
  .rename_i jB;simp only at jB;subst jB;simp only at hc;split at hc
   .rename_i x y hx;have e1:args= #[x,y]:=by apply Ym;simpa using hx
    subst e1;cases hc;exact dP hg (Builtin.min_ argTypes ty #[a.eval x,a.eval y]) (by simp[execOp,resolve,invoke,builtin]) (akG hI hR h)
   .cases hc
  .cases hc
end
end Go.Sx
namespace Go.Sx
def waits(ops:Array Oper)(i j:Nat):Bool:=((ops[i]?).map fun o=>o.after.toList.any fun e=>Region.binds .any e&&Nat.beq e.on j).getD false
def tp(ops:Array Oper):Bool:=(List.range ops.size).all fun i=>((ops[i]?).map fun o=>o.after.toList.all fun e=>!Region.binds .any e||Nat.blt e.on i).getD false
def tZ(ops:Array Oper)(k:Nat):Bool:=Nat.ble k ops.size&&(List.range ops.size).all fun i=>Nat.blt i k||(List.range i).all fun j=>waits ops i j
def eA(ops:Array Oper)(listed:Nat->Bool):List Nat:=
 (List.range ops.size).filter fun i=>!listed i&&((ops[i]?).map (·.after.toList.all fun e=>!Region.binds .any e||listed e.on)).getD false
def ji(ops:Array Oper):Nat->Nat->(Nat->Bool)->List Nat
 |0,_,_=>[]
 |fuel+1,t,listed=>match(eA ops listed)[t%(eA ops listed).length]? with
  |some i=>i::ji ops fuel (t / (eA ops listed).length) fun j=>listed j||Nat.beq i j
  |none=>[]
theorem adh(ops:Array Oper):∀(fuel t:Nat) (listed:Array Bool) (acc:List Nat) (p:Nat->Bool),listed.size=ops.size->(∀i,i<ops.size->listed.getD i true=p i/\listed.getD i false=p i)->(∀i,i<ops.size->∀o,ops[i]? =some o->∀e∈o.after,Region.binds .any e=true->e.on<ops.size)->
  Region.linearise.go .any ops fuel t listed acc=acc.reverse++ji ops fuel t p:=by
 intro fuel
 induction fuel with
 |zero=>intro t listed acc p _ _ _;simp[Region.linearise.go,ji]|succ fuel ih=>
  intro t listed acc p bl hp he;have hr:((List.range ops.size).filter fun i=>!listed.getD i true&&((ops[i]?).map (·.after.all fun e=>!Region.binds .any e||listed.getD e.on false)).getD false)=eA ops p:=by
   unfold eA;simp only[Yp];refine List.filter_congr fun i hi=>?_;have cJ:i<ops.size:=YW.1 hi;rw[(hp i cJ).1]
   congr 1
   have ho:ops[i]? =some ops[i]:=ZF cJ;rw[ho];simp only[ZJ,Zm];grind
  simp only[Region.linearise.go,ji,hr];cases hi:(eA ops p)[t%(eA ops p).length]? with
  |none=>simp|some i=>
   simp only;have I5:i<ops.size:=by have:=Y0 hi;unfold eA at this;exact YW.1 (Y6.1 this).1
   rw[ih (t / (eA ops p).length) (listed.setIfInBounds i true) (i::acc) (fun j=>p j||Nat.beq i j) (by simpa using bl) (fun j hj=>?_) he]
   .simp
   .have h1:=hp j hj;by_cases e:i=j
    .subst e;simp[ZS,Zj,bl,I5,Yv]
    .have e':Nat.beq i j=false:=by
      cases hb:Nat.beq i j with
      |false=>rfl|true=>exact absurd (Z0 hb) e
     simp only[ZS,Zj,e',Xm]at h1|-;simpa[e]using h1
theorem Re(ops:Array Oper)(hf:tp ops=true)(t:Nat):Region.linearise .any ops t=ji ops ops.size t fun i=>!Nat.blt i ops.size:=by
 unfold Region.linearise;rw[adh ops ops.size t _ [] (fun i=>!Nat.blt i ops.size) (by simp) (fun i hi=>?_) (fun i hi o ho e he hb=>?_)]
 .rfl
 .simp_all
 .unfold tp at hf;simp only[Yp]at hf;have h1:=ZA.1 hf i (YW.2 hi);rw[ho]at h1;simp only[ZJ,Zm,ZC]at h1;have h2:=h1 e he;rw[hb]at h2;simp at h2;omega
theorem N8{Y:Type}(p q:Y->Bool):∀(l:List Y),(∀x∈l,q x=true->p x=true)->(∃x∈l,p x=true/\q x=false)->(l.filter q).length+1<=(l.filter p).length
 |[],_,⟨x,hx,_⟩=>by cases hx|a::l,h,⟨x,hx,h1,h2⟩=>by
  rcases ZR.1 hx with rfl|hx
  .rw[Xp,Xp,Z9 (by simp[h2]),Z3 h1,ZY];have:(l.filter q).length<=(l.filter p).length:=by rw[<-List.countP_eq_length_filter,<-List.countP_eq_length_filter];exact List.countP_mono_left fun y hy hq=>h y (ZN _ hy) hq
   omega
  .have ih:=N8 p q l (fun y hy=>h y (ZN _ hy)) ⟨x,hx,h1,h2⟩;grind
theorem Df{ops:Array Oper}(hf:tp ops=true){i:Nat}(hi:i<ops.size):∀e∈ops[i].after,Region.binds .any e=true->e.on<i:=fun e he hb=>by unfold tp at hf;simp only[Yp]at hf;have h1:=ZA.1 hf i (YW.2 hi);rw[ZF hi]at h1;simp only[ZJ,Zm,ZC]at h1;have h2:=h1 e he;simp_all
theorem A8{ops:Array Oper}{k:Nat}(hl:tZ ops k=true){i j:Nat}(hi:i<ops.size)(hk:k<=i)(hj:j<i):∃e∈ops[i].after,Region.binds .any e=true/\e.on=j:=by
 unfold tZ at hl;rw[Z6]at hl;have h1:=ZA.1 hl.2 i (YW.2 hi);rw[YL]at h1;rcases h1 with h1|h1
 .rw[Yw]at h1;omega
 .have h2:=ZA.1 h1 j (YW.2 hj);unfold waits at h2;simp at h2;rw[ZF hi]at h2;simp only[ZJ,Zm]at h2;rw[Xy]at h2;obtain⟨m,hm,h3⟩:=h2;rw[Z6]at h3;exact⟨_,X5 hm,h3.1,Z0 h3.2⟩
theorem ahm{ops:Array Oper}{k:Nat}(hl:tZ ops k=true):k<=ops.size:=by unfold tZ at hl;rw[Z6]at hl;exact ZE hl.1
theorem ud{ops:Array Oper}{p:Nat->Bool}{i:Nat}:i∈eA ops p↔∃h:i<ops.size,p i=false/\∀e∈ops[i].after,Region.binds .any e=true->p e.on=true:=by
 unfold eA;rw[Y6,YW];constructor
 .grind
 grind
theorem aiE{ops:Array Oper}{k:Nat}(hf:tp ops=true)(hl:tZ ops k=true):∀(d m fuel t:Nat) (q:Nat->Bool),ops.size-m=d->k<=m->d<=fuel->(∀i,q i=(Nat.blt i m || !Nat.blt i ops.size))->m<=ops.size->ji ops fuel t q=List.range' m d:=by
 intro d
 induction d with
 |zero=>
  intro m fuel t q hd _ _ hq hm;have hr:eA ops q=[]:=by rw[List.eq_nil_iff_forall_not_mem];intro i hi;obtain⟨h,h1,_⟩:=ud.1 hi;grind
  cases fuel with
  |zero=>rfl|succ fuel=>simp[ji,hr]
 |succ d ih=>
  intro m fuel t q hd hk hfu hq hm;cases fuel with
  |zero=>omega|succ fuel=>
   have Px:m<ops.size:=by omega
   have xZ:Nat.blt m m=false:=by cases hb:Nat.blt m m with|false=>rfl|true=>simp_all
   have O8:Nat.blt m ops.size=true:=by simp_all
   have hr:eA ops q=[m]:=by
    have jJ:∀i,i∈eA ops q↔i=m:=fun i=>by
     rw[ud];constructor
     .rintro⟨h,h1,h2⟩;rcases XN i m with h3|h3|h3
      .rw[hq]at h1;have:Nat.blt i m=true:=by rw[Yw];grind
       grind
      .exact h3
      .obtain⟨e,he,hb,qd⟩:=A8 hl h (by omega) h3;have:=h2 e he hb;rw[qd,hq,xZ,O8]at this;cases this
     .rintro rfl;refine⟨Px,by rw[hq,xZ,O8];rfl,fun e he hb=>?_⟩;have:=Df hf Px e he hb;rw[hq];have:Nat.blt e.on i=true:=by rw[Yw];exact this
      rw[this];rfl
    have BE:(eA ops q).Nodup:=List.Pairwise.filter _ List.nodup_range
    match hL:eA ops q,jJ,BE with
    |[],hs,_=>exact absurd ((hs m).2 rfl) (by simp)|[x],hs,_=>rw[(hs x).1 (by simp)]|x::y::l,hs,hn=>have h1:=(hs x).1 (by simp);have h2:=(hs y).1 (by simp);simp[h1,h2]at hn
   simp only[ji,hr,Y1,Nat.mod_one,List.getElem?_cons_zero];rw[List.range'_succ,ih (m+1) fuel _ _ (by omega) (by omega) (by omega) (fun i=>?_) (by omega)];rw[hq];by_cases h1:i<m
   .have e1:Nat.blt i m=true:=by rw[Yw];exact h1
    have e2:Nat.blt i (m+1)=true:=by rw[Yw];omega
    rw[e1,e2];rfl
   .have e1:Nat.blt i m=false:=by cases hb:Nat.blt i m with|false=>rfl|true=>rw[Yw]at hb;omega
    by_cases h2:i=m
    .subst h2;have e2:Nat.blt i (i+1)=true:=by rw[Yw];omega
     rw[e2,Yv];simp
    .have e2:Nat.blt i (m+1)=false:=by cases hb:Nat.blt i (m+1)with|false=>rfl|true=>rw[Yw]at hb;omega
     have e3:Nat.beq m i=false:=by cases hb:Nat.beq m i with|false=>rfl|true=>exact absurd (Z0 hb).symm h2
     rw[e1,e2,e3];simp
theorem Sp(ops:Array Oper):∀(fuel t:Nat) (p:Nat->Bool) {i:Nat},i∈ji ops fuel t p->i<ops.size
 |0,_,_,_,h=>by cases h|fuel+1,t,p,i,h=>by
  unfold ji at h;split at h
  .rename_i j hj;rcases ZR.1 h with rfl|h
   .obtain⟨h1,_⟩:=ud.1 (Y0 hj);grind
   .exact Sp ops fuel _ _ h
  grind
theorem aiF{ops pre:Array Oper}{k:Nat}(hf:tp ops=true)(hl:tZ ops k=true)(hp:pre.size=k)(he:∀i (h:i<k) (h':i<ops.size) (xB:i<pre.size),pre[i]=ops[i]):
  ∀(fuel t:Nat) (p q:Nat->Bool),((List.range k).filter fun i=>!p i).length<=fuel->(∀i,q i=if i<k then p i else !Nat.blt i ops.size)->ji ops (fuel+(ops.size-k)) t q=ji pre fuel t p++List.range' k (ops.size-k):=by
 have Ay:=ahm hl
 have done:∀(fuel t:Nat) (p q:Nat->Bool),(∀i,i<k->p i=true)->(∀i,q i=if i<k then p i else !Nat.blt i ops.size)->ji ops (fuel+(ops.size-k)) t q=List.range' k (ops.size-k):=fun fuel t p q bW hq=>
  aiE hf hl _ k _ t q rfl (ZO _) (by omega) (fun i=>by
   rw[hq];by_cases h:i<k
   .simp_all
   .have e1:Nat.blt i k=false:=by cases hb:Nat.blt i k with|false=>rfl|true=>rw[Yw]at hb;omega
    grind) Ay
 intro fuel
 induction fuel with
 |zero=>
  intro t p q hc hq;have h0:=Zt (Nat.le_zero.1 hc);exact done 0 t p q (fun i hi=>by
   simp_all) hq
 |succ fuel ih=>
  intro t p q hc hq;by_cases bW:∀i,i<k->p i=true
  .have hr:eA pre p=[]:=by rw[List.eq_nil_iff_forall_not_mem];intro i hi;obtain⟨h,h1,_⟩:=ud.1 hi;rw[bW i (by omega)]at h1;cases h1
   rw[done (fuel+1) t p q bW hq];simp[ji,hr]
  .obtain⟨i0,eH,vM⟩:∃i0,(i0<k/\p i0=false)/\∀j,j<i0->p j=true:=by
    have:∃i,i<k/\p i=false:=by
     refine Classical.byContradiction fun hn=>bW fun i hi=>?_;cases hpi:p i with
     |true=>rfl|false=>exact absurd ⟨i,hi,hpi⟩ hn
    obtain⟨n,hn⟩:=this
    induction n using Nat.strongRecOn with
    |ind n ihn=>
     by_cases h:∃j,j<n/\p j=false
     .obtain⟨j,hj,Jl⟩:=h;exact ihn j hj ⟨by omega,Jl⟩
     .refine⟨n,hn,fun j hj=>?_⟩;cases Jl:p j with
      |true=>rfl|false=>exact absurd ⟨j,hj,Jl⟩ h
   have AL:∀j,j<k->q j=p j:=fun j hj=>by rw[hq,Z3 hj]
   have hr:eA ops q=eA pre p:=by
    have fx:∀i,i∈eA ops q↔i∈eA pre p:=fun i=>by
     rw[ud,ud];constructor
     .rintro⟨h,h1,h2⟩;by_cases gS:i<k
      .refine⟨by omega,by rw[<-AL i gS];exact h1,fun e oM hb=>?_⟩;rw[he i gS h (by omega)]at oM;have h3:=Df hf h e oM hb;rw[<-AL _ (by omega)];exact h2 e oM hb
      .obtain⟨e,oM,hb,qd⟩:=A8 hl h (by omega) (show i0<i by omega);have:=h2 e oM hb;rw[qd,AL i0 eH.1,eH.2]at this;cases this
     .rintro⟨h,h1,h2⟩;have gS:i<k:=by omega
      refine⟨by omega,by rw[AL i gS];exact h1,fun e oM hb=>?_⟩;have adP:e∈pre[i].after:=by rw[he i gS (by omega) h];exact oM
      have h3:=Df hf (show i<ops.size by omega) e oM hb;rw[AL _ (by omega)];exact h2 e adP hb
    have e1:eA ops q=(List.range k).filter (fun i=>decide (i∈eA pre p)):=by
     unfold eA at fx|-;have e2:List.range ops.size=List.range k++List.range' k (ops.size-k):=by have h:=@List.range'_append_1 0 k (ops.size-k);rw[ZH,show k+(ops.size-k)=ops.size by omega]at h;rw[Xw,Xw,<-h]
     rw[e2,X0];have e3:(List.range' k (ops.size-k)).filter (fun i=>!q i&&((ops[i]?).map (·.after.toList.all fun e=>!Region.binds .any e||q e.on)).getD false)=[]:=by rw[Yf];intro i hi gG;have h1:=(fx i).1 (Y6.2 ⟨by rw[e2];exact Y3 _ hi,gG⟩);have h2:=YW.1 (Y6.1 h1).1;have h3:=List.mem_range'.1 hi;omega
     rw[e3,Y5];refine List.filter_congr fun i hi=>?_;have h1:=fx i;rw[Y6,Y6]at h1;have h2:i∈List.range ops.size:=YW.2 (by have:=YW.1 hi;omega);have h3:i∈List.range pre.size:=YW.2 (by have:=YW.1 hi;omega);rw[YH,ZQ,Y6];constructor
     .intro h;exact h1.1 ⟨h2,h⟩
     .intro h;exact(h1.2 h).2
    rw[e1]
    conv=>rhs;unfold eA
    rw[hp];refine List.filter_congr fun i hi=>?_;rw[YH,ZQ];unfold eA;rw[Y6,hp];exact⟨fun h=>h.2,fun h=>⟨hi,h⟩⟩
   have aW:eA pre p≠[]:=fun e=>by
    have:i0∈eA pre p:=ud.2 ⟨by omega,eH.2,fun e oM hb=>by
     rw[he i0 eH.1 (by omega) (by omega)]at oM
     exact vM _ (Df hf (show i0<ops.size by omega) e oM hb)⟩
    rw[e]at this;cases this
   have hlen:0<(eA pre p).length:=X4.2 aW;obtain⟨i,hi⟩:∃i,(eA pre p)[t%(eA pre p).length]? =some i:=⟨_,ZX (Nat.mod_lt _ hlen)⟩
   have I5:=Y0 hi;obtain⟨h1,h2,_⟩:=ud.1 I5;rw[show fuel+1+(ops.size-k)=(fuel+(ops.size-k))+1 by omega];simp only[ji,hr,hi];rw[ZB,ih (t / (eA pre p).length) (fun j=>p j||Nat.beq i j) (fun j=>q j||Nat.beq i j) ?_ (fun j=>?_)]
   .have:=N8 (fun i=>!p i) (fun j=>!(p j||Nat.beq i j)) (List.range k) (fun x _ hx=>by simp at hx|-;exact hx.1) ⟨i,YW.2 (by omega),by simp[h2],by simp[Yv]⟩;omega
   .rw[hq];by_cases hj:j<k
    .rw[Z3 hj,Z3 hj]
    .rw[Z9 hj,Z9 hj];have:Nat.beq i j=false:=by cases hb:Nat.beq i j with|false=>rfl|true=>have:=Z0 hb;omega
     rw[this,Xm]
