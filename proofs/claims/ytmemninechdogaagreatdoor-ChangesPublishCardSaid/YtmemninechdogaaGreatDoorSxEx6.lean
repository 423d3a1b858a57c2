import Derived.Test.YtmemninechdogaaGreatDoorSxEx4
set_option linter.all false
namespace Go.Sx
open Go.RowKit
def Agree(n:Nat)(B B':BM):Prop:=∀i,i<n->B i=B' i
theorem Agree.refl(n:Nat)(B:BM):Agree n B B:=fun _ _=>rfl
theorem Agree.trans{n:Nat}{A B C:BM}(h:Agree n A B)(k:Agree n B C):Agree n A C:=fun i hi=>(h i hi).trans (k i hi)
theorem Agree.symm{n:Nat}{A B:BM}(h:Agree n A B):Agree n B A:=fun i hi=>(h i hi).symm
theorem Agree.le{n m:Nat}{A B:BM}(h:Agree n A B)(hm:m<=n):Agree m A B:=fun i hi=>h i (by omega)
def gZ(n:Nat)(x:AV):Prop:=∀B B',Agree n B B'->au B x=au B' x
def sK(n:Nat)(x:List AV):Prop:=∀B B',Agree n B B'->aI B x=aI B' x
def db(n:Nat)(x:ag):Prop:=∀B B',Agree n B B'->bP B x=bP B' x
def cI(n:Nat)(x:Store):Prop:=∀B B',Agree n B B'->aS B x=aS B' x
theorem db.le{n m:Nat}{x:ag}(h:db n x)(hm:n<=m):db m x:=fun B B' k=>h B B' (k.le hm)
theorem cI.le{n m:Nat}{x:Store}(h:cI n x)(hm:n<=m):cI m x:=fun B B' k=>h B B' (k.le hm)
theorem db.put{n:Nat}{x:AV}{rg:ag}(h:db n rg)(k:gZ n x)(d:Option Nat):db n (bB d x rg):=fun B B' e=>by rw[anr,anr,h B B' e,k B B' e]
theorem db.cons{n t:Nat}{v:Value}{rg:ag}(h:db n rg):db n ((t,.v v)::rg):=fun B B' e=>by simp only[bP,h B B' e,au]
theorem gZ.v(n:Nat)(v:Value):gZ n (.v v):=fun _ _ _=>rfl
section
variable {P:Program}[Glob P]{T:XT}{cfg:Nat->Nat}{call:FuncId->List AV->Store->Nat->XO}
def iY(P:Program)[Glob P](call:FuncId->List AV->Store->Nat->XO):Prop:=
 ∀f as q n x af n',call f as q n=some (x,af,n')->sK n as->cI n q->n<=n'/\gZ n' x/\cI n' af/\
  ∀B S,Spec P f (aI B as) (aS B q++S) fun r j=>∃B',Agree n B B'/\r= .ret (au B' x)/\j=aS B' af++S
def ku(P:Program)[Glob P](T:XT):Prop:=
 ∀op ty ti args as d n q x af n',T.ops op ty ti args as d n q=some (x,af,n')->sK n as->cI n q->n<=n'/\gZ n' x/\cI n' af/\
  ∀B S,fH P op ty ti args (aI B as) (aS B q++S) fun r j=>∃B',Agree n B B'/\r=au B' x/\j=aS B' af++S
theorem db.aL{n:Nat}{rg:ag}(h:db n rg)(l:List Operand):sK n (aL rg l):=fun B B' k=>by rw[<-lK,<-lK,h B B' k]
theorem db.ev{n:Nat}{rg:ag}(h:db n rg)(l:Operand):gZ n (ev rg l):=fun B B' k=>by rw[<-dx,<-dx,h B B' k]
def Mh(P:Program)[Glob P](cfg:Nat->Nat)(dd:Option Nat)(n:Nat)(rg:ag)(q:Store)(op:aB)(x:AV)(af:Store)(n':Nat):Prop:=
 n<=n'/\gZ n' x/\cI n' af/\∀(B:BM) (S:Store) (K:AV->Store->Prop) (E:List PanicEntry->Store->Prop),
  (∀B',Agree n B B'->K (au B' x) (aS B' af++S))->ak P cfg dd (bP B rg) (aS B q++S) K E op
theorem wR(hT:T.OK P){dd:Option Nat}{n:Nat}{rg:ag}{q:Store}{op:aB}{x:AV}{af:Store}{n':Nat}(h:oe T cfg (dd.getD 0) n rg q op=some (x,af,n'))
  (hG:db n rg) (hS:cI n q):Mh P cfg dd n rg q op x af n':=by
 unfold oe at h;split at h
 .rename_i x1 aR f hx;cases h;have key:∀B B',Agree (n+1) B B'->au B x=au B' x/\aS B af=aS B' af:=by
   intro B B' hA;have h1:=FZ (B:=B) (S:=[]) hT hx;have h2:=FZ (B:=B') (S:=[]) hT hx;rw[hG B B' (hA.le (Nat.le_succ _)),hS B B' (hA.le (Nat.le_succ _)),hA n (Yc _),h2]at h1;simp only[ZV,YX,Y5]at h1;exact⟨h1.1.symm,h1.2.1.symm⟩
  refine⟨Nat.le_succ _,fun B B' k=>(key B B' k).1,fun B B' k=>(key B B' k).2,fun B S K E hK=>?_⟩;refine US hT fun b u c=>?_
  let B':BM:=fun i=>if i=n then(b,u,c)else B i
  have hA:Agree n B B':=fun i hi=>by simp only[B'];rw[Z9 (by omega)]
  have h1:=FZ (B:=B') (S:=S) hT hx;have e:B' n=(b,u,c):=Z3 rfl;rw[e,<-hG B B' hA,<-hS B B' hA]at h1;exact⟨_,_,_,h1,hK B' hA⟩
 .cases h
theorem C0:∀{l:List AV} {m:List Value},iq l=some m->l=m.map .v
 |[],_,h=>by cases h;rfl|.v x::l,m,h=>by
  simp only[iq,Z8]at h;obtain⟨m',h1,rfl⟩:=h;rw[C0 h1];rfl
theorem u9:∀{l:List AV} {m:List Value},bR l=some m->cj (m.map .v) l
 |[],_,h=>by cases h;exact .nil|.v x::l,m,h=>by
  simp only[bR,Z8]at h;obtain⟨m',h1,rfl⟩:=h;exact .cons (.refl _) (u9 h1)
 |.lp t b o::l,m,h=>by simp only[bR,Z8]at h;obtain⟨m',h1,rfl⟩:=h;exact .cons .raw (u9 h1)
 |.agg xs::l,m,h=>by
  simp only[bR]at h;split at h
  .rename_i cs hc;simp only[Z8]at h;obtain⟨m',h1,rfl⟩:=h;refine .cons (fun M v k=>?_) (u9 h1);rw[k.aC,C0 hc];exact R.rM (RL.exact _)
  .cases h
theorem xt{B B':BM}:∀{a:List AV} {m:List Value},bR (aI B a)=some m->bR (aI B' a)=some m->aI B a=aI B' a
 |[],_,_,_=>rfl|.v x::l,m,h,h'=>by simp only[aI,au,bR,Z8]at h h'|-;obtain⟨m1,h1,rfl⟩:=h;obtain⟨m2,h2,e⟩:=h';cases e;rw[xt h1 h2]
 |.lp t b o::l,m,h,h'=>by simp only[aI,au,bR,Z8]at h h'|-;obtain⟨m1,h1,rfl⟩:=h;obtain⟨m2,h2,e⟩:=h';simp only[Z2,Value.pointer.injEq,ZV,Addr.mk.injEq,Zn]at e;rw[e.1,xt h1 (e.2 ▸ h2)]
 |.agg xs::l,m,h,h'=>by
  simp only[aI,au,bR]at h h'|-;split at h
  .rename_i cs hc;split at h'
   .rename_i cs' gG;simp only[Z8]at h h';obtain⟨m1,h1,rfl⟩:=h;obtain⟨m2,h2,e⟩:=h';simp only[Z2,Value.agg.injEq]at e;have e1:cs'=cs:=by simpa using e.1
    rw[C0 hc,C0 gG,e1,xt h1 (e.2 ▸ h2)]
   .cases h'
  .cases h
 |.cl g a c::l,m,h,h'=>by
  simp only[aI]at h h'|-;rcases jk (B:=B) g a c with⟨a1,c1,_,_,e1⟩|⟨_,e1⟩<;>rcases jk (B:=B') g a c with⟨a2,c2,_,_,e2⟩|⟨_,e2⟩<;>rw[e1]at h|-<;>rw[e2]at h'|-<;>simp only[bR,reduceCtorEq,Z8]at h h'
  obtain⟨m1,h1,rfl⟩:=h;obtain⟨m2,h2,e⟩:=h';cases e;rw[xt h1 h2]
 |.any::l,m,h,h'=>by simp[aI,au,bR]at h|.aG _::l,m,h,h'=>by simp[aI,au,bR]at h|.pc _::l,m,h,h'=>by simp[aI,au,bR]at h|.sl .. ::l,m,h,h'=>by simp[aI,au,bR]at h|.fl .. ::l,m,h,h'=>by simp[aI,au,bR]at h|.own .. ::l,m,h,h'=>by simp[aI,au,bR]at h|.ms .. ::l,m,h,h'=>by simp[aI,au,bR]at h|.bJ .. ::l,m,h,h'=>by simp[aI,au,bR]at h|.dD .. ::l,m,h,h'=>by simp[aI,au,bR]at h|.ai _::l,m,h,h'=>by simp[aI,au,bR]at h
theorem gZ.parts{n:Nat}{f:FuncId}{a c:List AV}(h:gZ n (.cl f a c)):sK n a/\sK n c:=by
 have key:∀B B',Agree n B B'->aI B a=aI B' a/\aI B c=aI B' c:=fun B B' k=>by
  have e:=h B B' k;rcases jk (B:=B) f a c with⟨a1,c1,oK,bC,e1⟩|⟨_,e1⟩<;>rcases jk (B:=B') f a c with⟨a2,c2,lR,bO,e2⟩|⟨_,e2⟩<;>rw[e1,e2]at e<;>simp only[AV.v.injEq,Value.func.injEq,AV.cl.injEq,reduceCtorEq,Yg]at e
  .have q1:a1=a2:=by simpa using e.1
   have q2:c1=c2:=by simpa using e.2
   exact⟨xt oK (q1 ▸ lR),xt bC (q2 ▸ bO)⟩
  .exact e
 exact⟨fun B B' k=>(key B B' k).1,fun B B' k=>(key B B' k).2⟩
theorem uB(B:BM)(a:Array Value):aI B (a.toList.map .v)=a.toList.map .v:=yA _
theorem UT(hT:T.OK P)(hc:iY P call)(ho:ku P T){dd:Option Nat}{n:Nat}{rg:ag}{q:Store}{op:aB}{x:AV}{af:Store}{n':Nat}
  (h:xS T cfg call (dd.getD 0) n rg q op=some (x,af,n')) (hG:db n rg) (hS:cI n q):Mh P cfg dd n rg q op x af n':=by
 have Ai:∀{f:FuncId} {as:List AV} {n':Nat},call f as q n=some (x,af,n')->sK n as->n<=n'/\gZ n' x/\cI n' af/\∀(B:BM) (S:Store) (K:AV->Store->Prop) (E:List PanicEntry->Store->Prop),
   (∀B',Agree n B B'->K (au B' x) (aS B' af++S))->pA P f (aI B as) (aS B q++S) K E:=by
  intro f as n' h hL;obtain⟨h1,h2,h3,h4⟩:=hc _ _ _ _ _ _ _ h hL hS;exact⟨h1,h2,h3,fun B S K E hK=>⟨_,h4 B S,fun y j ⟨B',a,b,c⟩=>by cases b;subst c;exact hK B' a,fun ch j ⟨B',a,b,c⟩=>by cases b⟩⟩
 cases op with
 |call f args=>obtain⟨h1,h2,h3,h4⟩:=Ai h (hG.aL args);exact⟨h1,h2,h3,fun B S K E hK=>by simp only[ak,lK];exact h4 B S K E hK⟩
 |fZ fo args=>
  simp only[xS]at h;split at h
  .rename_i f a c hf;obtain⟨hb,h⟩:=eW h;obtain⟨h1,h2,h3,h4⟩:=Ai h (fun B B' k=>by rw[jM,jM,jM,jM,uB,uB,uB,uB,hG.aL args B B' k]);refine⟨h1,h2,h3,fun B S K E hK=>?_⟩;simp only[ak,dx,hf,au];have:=h4 B S K E hK;rw[jM,jM,uB,uB,<-lK]at this;exact⟨hT.can _ hb,this⟩
  .rename_i f a c hf;obtain⟨hb,h⟩:=eW h;have Pl:=hG.ev fo;rw[hf]at Pl;obtain⟨fa,fc⟩:=Pl.parts;obtain⟨h1,h2,h3,h4⟩:=Ai h (fun B B' k=>by rw[jM,jM,jM,jM,fa B B' k,fc B B' k,hG.aL args B B' k]);refine⟨h1,h2,h3,fun B S K E hK=>?_⟩;simp only[ak,dx,hf];have:=h4 B S K E hK;rw[jM,jM,<-lK]at this;rcases jk (B:=B) f a c with⟨a1,c1,oK,bC,e1⟩|⟨_,e1⟩<;>rw[e1]
   .obtain⟨Q,q1,q2⟩:=this;exact⟨hT.can _ hb,Q,q1.wk (((u9 oK).append (cj.refl _)).append (u9 bC)),q2⟩
   .exact⟨hT.can _ hb,this⟩
  .cases h
 |exts op ty ti args=>obtain⟨h1,h2,h3,h4⟩:=ho _ _ _ _ _ _ _ _ _ _ _ h (hG.aL args) hS;exact⟨h1,h2,h3,fun B S K E hK=>by simp only[ak,lK];exact(h4 B S).mono fun y j ⟨B',a,b,c⟩=>by subst b c;exact hK B' a⟩
 |cL op ty ti args=>
  simp only[xS]at h;split at h
  .rename_i r hr;cases h;exact wR hT hr hG hS
  .obtain⟨h1,h2,h3,h4⟩:=ho _ _ _ _ _ _ _ _ _ _ _ h (hG.aL args) hS;exact⟨h1,h2,h3,fun B S K E hK=>by simp only[ak,lK];exact(h4 B S).mono fun y j ⟨B',a,b,c⟩=>by subst b c;exact hK B' a⟩
 |_=>exact wR hT h hG hS
theorem FX(hT:T.OK P)(hc:iY P call)(ho:ku P T):∀(l:List CI) {n:Nat} {rg:ag} {q:Store} {al:ag} {af:Store} {n':Nat},xL T cfg call l rg q n=some (al,af,n')->db n rg->cI n q->
  n<=n'/\db n' al/\cI n' af/\∀(B:BM) (S:Store) (K:ag->Store->Prop) (E:List PanicEntry->Store->Prop),
   (∀B',Agree n B B'->K (bP B' al) (aS B' af++S))->ko P cfg l K E (bP B rg) (aS B q++S)
 |[],n,rg,q,al,af,n',h,hG,hS=>by cases h;exact⟨ZO _,hG,hS,fun B S K E hK=>hK B (.refl _ _)⟩|c::l,n,rg,q,al,af,n',h,hG,hS=>by
  have step:∀{eK:ag},db n eK->(match xS T cfg call (c.d.getD 0) n eK q c.op with
     |some (x,af,n')=>xL T cfg call l (bB c.d x eK) af n'|none=>none)=some (al,af,n')->
    n<=n'/\db n' al/\cI n' af/\∀(B:BM) (S:Store) (K:ag->Store->Prop) (E:List PanicEntry->Store->Prop),
     (∀B',Agree n B B'->K (bP B' al) (aS B' af++S))->ak P cfg c.d (bP B eK) (aS B q++S) (fun x af=>ko P cfg l K E (bB c.d x (bP B eK)) af) E c.op:=by
   intro eK hG h;split at h
   .rename_i x1 aR n1 hx;obtain⟨h1,h2,h3,h4⟩:=UT hT hc ho hx hG hS;obtain⟨k1,k2,k3,k4⟩:=FX hT hc ho l h ((hG.le h1).put h2 _) h3;refine⟨ZD h1 k1,k2,k3,fun B S K E hK=>h4 B S _ E fun B' hA=>?_⟩;have:=k4 B' S K E fun uI ri=>hK uI (hA.trans (ri.le h1));rw[anr,<-hG B B' hA]at this;exact this
   .cases h
  simp only[xL]at h;split at h
  .rename_i hg;obtain⟨h1,h2,h3,h4⟩:=step hG h;refine⟨h1,h2,h3,fun B S K E hK=>?_⟩;simp only[ko,hg];exact h4 B S K E hK
  .rename_i t want hg;split at h
   .rename_i b hb;split at h
    .rename_i e;have e:b=want:=by simpa using e
     subst e;obtain⟨h1,h2,h3,h4⟩:=step hG.cons h;refine⟨h1,h2,h3,fun B S K E hK=>?_⟩;simp only[ko,hg,mZ,hb,au];exact⟨fun _=>h4 B S K E hK,fun e=>absurd e (by cases b<;>decide)⟩
    .rename_i e;have e:b= !want:=by revert e;cases b<;>cases want<;>decide
     subst e;obtain⟨k1,k2,k3,k4⟩:=FX hT hc ho l h (hG.cons.put (gZ.v _ _) _) hS;refine⟨k1,k2,k3,fun B S K E hK=>?_⟩;simp only[ko,hg,mZ,hb,au];have:=k4 B S K E hK;rw[anr]at this;exact⟨fun e=>absurd e (by cases want<;>decide),fun _=>this⟩
   .rename_i hb;obtain⟨k1,k2,k3,k4⟩:=FX hT hc ho l h (hG.put (gZ.v _ _) _) hS;refine⟨k1,k2,k3,fun B S K E hK=>?_⟩;simp only[ko,hg,mZ,hb,au];have:=k4 B S K E hK;rw[anr]at this;exact this
   .cases h
end
section
variable {P:Program}[Glob P]{T:XT}{cfg:Nat->Nat}{dR:FuncId->List AV->Nat->Option AV}{B:BM}{aq cf:List Nat}
theorem Q0(x:AV):rK (au B x)=rK x:=by
 cases x with
 |cl g a c=>rcases jk (B:=B) g a c with⟨a',c',_,_,e⟩|⟨_,e⟩<;>rw[e]<;>rfl
 |_=>rfl
theorem ahk(rg:ag)(t s:Nat):o6 (bP B rg) t s=o6 rg t s:=by simp only[o6,mZ,Q0]
theorem ahp(rg:ag)(op:aB):mY aq cf (bP B rg) op=mY aq cf rg op:=by
 cases op<;>try rfl
 simp only[mY,dx];have e:o6 (bP B rg)=o6 rg:=funext fun t=>funext fun s=>ahk rg t s;rw[e];generalize ev rg _=y;cases y with
 |cl g a c=>rcases jk (B:=B) g a c with⟨a',c',_,_,e⟩|⟨_,e⟩<;>rw[e]
 |_=>rfl
theorem alc(rg:ag)(op:aB):oa aq cf (bP B rg) op=oa aq cf rg op:=by
 cases op<;>try rfl
 simp only[oa,dx,mZ,Q0];generalize ev rg _=y;cases y with
 |cl g a c=>rcases jk (B:=B) g a c with⟨a',c',_,_,e⟩|⟨_,e⟩<;>rw[e]
 |_=>rfl
def oh(P:Program)[Glob P](dR:FuncId->List AV->Nat->Option AV):Prop:=
 ∀f as n r,dR f as n=some r->(∀B,au B r=r)/\∀B,Pure P f (aI B as) r
theorem amB(hT:T.OK P){dd:Option Nat}{b u c:Nat}{rg:ag}{q:Store}{op:aB}{x:AV}{af:Store}{f:Bool}{K:AV->Prop}(bL:op.cls=0)(hm:∀t e ps,op= .fz t e ps->cfg (dd.getD 0)=0\/cfg (dd.getD 0)=3)
  (h:xO T cfg true (dd.getD 0) b u c rg q op=some (x,af,f)) (hK:K x):aM P cfg dd rg q K op:=by
 cases op with
 |fz t e ps=>
  have h0:=hm t e ps rfl;simp only[xO]at h;simp only[aM];split at h
  .rename_i rows hr;obtain⟨hb,h⟩:=eW h;simp only[hr];refine⟨ZE hb,?_⟩;rcases h0 with h0|h0<;>simp only[h0]at h|-<;>cases h<;>exact hK
  .cases h
 |call f args=>cases h|fZ f args=>cases h|cL op ty ti args=>
  simp only[xO]at h;simp only[aM];split at h
  .rename_i as has;split at h
   .rename_i r hr;cases h;refine⟨_,⟨fun q=>?_⟩,hK⟩;exact fun bu M w0 w p hI hR=>(hT.uk _ _ _ _ _ _ hr).1.sp q bu M w0 w p hI ((su has).sound hR)
   .cases h
  .cases h
 |len str x=>
  cases str with
  |true=>
   simp only[xO,gC]at h;simp only[aM];split at h
   .rename_i hx;rw[hx];cases h;exact hK
   .cases h
  |false=>simp only[xO,gC]at h;simp only[aM];split at h<;>first|(cases h;done)|(rename_i hx;rw[hx];cases h;exact hK)
 |box t x=>cases bL|alloc t z=>cases bL|store n x y=>cases bL|append t n k z x y=>cases bL|exts op ty ti args=>cases bL|panic x=>cases bL|load a n x=>cases bL|_=>
  simp only[aM];exact US (K:=fun x _=>K x) hT fun b' u' c'=>⟨_,_,_,(by simp only[xO]at h|-;exact h),hK⟩
theorem amD{rl:Bool}{d b u c:Nat}{rg:ag}{q:Store}{op:aB}{x:AV}{af:Store}{f:Bool}(bL:op.cls=0)(hm:∀t e ps,op= .fz t e ps->cfg d=0\/cfg d=3)
  (h:xO T cfg rl d b u c rg q op=some (x,af,f)):af=q:=by
 cases op with
 |fz t e ps=>
  have h0:=hm t e ps rfl;simp only[xO]at h;split at h
  .obtain⟨hb,h⟩:=eW h;rcases h0 with h0|h0<;>simp only[h0]at h<;>cases h<;>rfl
  .cases h
 |box t x=>cases bL|alloc t z=>cases bL|store n x y=>cases bL|append t n k z x y=>cases bL|exts op ty ti args=>cases bL|panic x=>cases bL|load a n x=>cases bL|len s x=>
  cases s<;>simp only[xO,gC]at h<;>split at h<;>cases h<;>rfl
 |field agg off m x=>
  simp only[xO]at h;split at h
  .obtain⟨hb,h⟩:=eW h;cases agg
   .simp only[Yx]at h;split at h<;>cases h;rfl
   .cases h;rfl
  .cases h
 |_=>
  simp only[xO,mI,zK,tj,gC]at h;first
  |(cases h;done)
  |(cases h;rfl)
  |(repeat'(split at h))<;>first|(cases h;done)|(cases h;rfl)|(obtain⟨_,h⟩:=fY h;cases h;rfl)|(obtain⟨_,h⟩:=eW h;(repeat'(split at h))<;>first|(cases h;done)|(cases h;rfl))
def Gk(P:Program)[Glob P](cfg:Nat->Nat)(aq cf:List Nat)(dd:Option Nat)(n:Nat)(rg:ag)(q:Store)(op:aB)(x:AV)(af:Store)(n':Nat):Prop:=
 n<=n'/\gZ n' x/\cI n' af/\∀(B:BM) (S:Store) (K:AV->Store->Prop),
  (∀B',Agree n B B'->K (au B' x) (aS B' af++S))->cy P cfg aq cf dd (bP B rg) (aS B q++S) K op
theorem amC(hT:T.OK P)(hp:oh P dR){dd:Option Nat}{n:Nat}{rg:ag}{q:Store}{op:aB}{x:AV}{af:Store}{n':Nat}(bL:op.cls=0)
  (h:BV T cfg dR (dd.getD 0) n rg q op=some (x,af,n')) (hG:db n rg) (hS:cI n q):Gk P cfg aq cf dd n rg q op x af n':=by
 have gen:∀{op:aB},op.cls=0->(∀t e ps,op= .fz t e ps->cfg (dd.getD 0)=0\/cfg (dd.getD 0)=3)->oe T cfg (dd.getD 0) n rg q op=some (x,af,n')->Gk P cfg aq cf dd n rg q op x af n':=by
  intro op bL hm h;obtain⟨h1,h2,h3,_⟩:=wR hT h hG hS;unfold oe at h;split at h
  .rename_i x1 aR f hx;cases h;have e:=amD bL hm hx;subst e;refine⟨h1,h2,h3,fun B S K hK=>?_⟩;unfold cy;rw[bL];exact amB hT bL hm (FZ (B:=B) (S:=S) hT hx) (hK B (.refl _ _))
  .cases h
 have GJ:∀{f:FuncId} {as:List AV} {K:AV->Prop} {B:BM},dR f as n=some x->K x->wY P f (aI B as) K:=fun h hK=>⟨_,(hp _ _ _ _ h).2 _,hK⟩
 cases op with
 |fz t e ps=>
  simp only[BV]at h;split at h
  .rename_i hc;exact gen bL (fun _ _ _ _=>.inl hc) h
  .rename_i hc;exact gen bL (fun _ _ _ _=>.inr hc) h
  .cases h
 |call f args=>simp only[BV]at h;obtain⟨r,h1,h2⟩:=Z8.1 h;cases h2;have hf:=(hp _ _ _ _ h1).1;refine⟨ZO _,fun B B' _=>by rw[hf,hf],hS,fun B S K hK=>?_⟩;have:=hK B (.refl _ _);rw[hf]at this;simp only[cy,aB.cls,aM,lK];exact GJ h1 this
 |fZ fo args=>
  simp only[BV]at h;split at h
  .rename_i f a c I0;obtain⟨hb,h⟩:=eW h;obtain⟨r,h1,h2⟩:=Z8.1 h;cases h2;have hf:=(hp _ _ _ _ h1).1;refine⟨ZO _,fun B B' _=>by rw[hf,hf],hS,fun B S K hK=>?_⟩;have:=hK B (.refl _ _);rw[hf]at this;simp only[cy,aB.cls,aM,dx,I0,au];have:=GJ (B:=B) (K:=fun x=>K x (aS B q++S)) h1 this;rw[jM,jM,uB,uB,<-lK]at this;exact⟨hT.can _ hb,this⟩
  .rename_i f a c I0;obtain⟨hb,h⟩:=eW h;obtain⟨r,h1,h2⟩:=Z8.1 h;cases h2;have hf:=(hp _ _ _ _ h1).1;refine⟨ZO _,fun B B' _=>by rw[hf,hf],hS,fun B S K hK=>?_⟩;have:=hK B (.refl _ _);rw[hf]at this;simp only[cy,aB.cls,aM,dx,I0];have:=GJ (B:=B) (K:=fun x=>K x (aS B q++S)) h1 this;rw[jM,jM,<-lK]at this;rcases jk (B:=B) f a c with⟨a1,c1,oK,bC,e1⟩|⟨_,e1⟩<;>rw[e1]
   .obtain⟨r,q1,q2⟩:=this;exact⟨hT.can _ hb,r,q1.wk (((u9 oK).append (cj.refl _)).append (u9 bC)),q2⟩
   .exact⟨hT.can _ hb,this⟩
  .cases h
 |_=>exact gen bL (fun _ _ _ e=>nomatch e) h
theorem amA(hT:T.OK P)(hp:oh P dR){dd:Option Nat}{n:Nat}{rg:ag}{q:Store}{op:aB}{x:AV}{af:Store}{n':Nat}
  (h:BU T cfg dR aq cf (dd.getD 0) n rg q op=some (x,af,n')) (hG:db n rg) (hS:cI n q):Gk P cfg aq cf dd n rg q op x af n':=by
 unfold BU at h;split at h
 .rename_i hc;exact amC hT hp hc h hG hS
 .rename_i hc;obtain⟨hb,h⟩:=eW h;obtain⟨h1,h2,h3,h4⟩:=wR hT h hG hS;refine⟨h1,h2,h3,fun B S K hK=>?_⟩;unfold cy;rw[hc];exact⟨by rw[ahp];exact hb,h4 B S K _ hK⟩
 .rename_i hc;obtain⟨h1,h2,h3,h4⟩:=wR hT h hG hS;refine⟨h1,h2,h3,fun B S K hK=>?_⟩;unfold cy;rw[hc];exact h4 B S K _ hK
 .rename_i hc;obtain⟨hb,h⟩:=eW h;obtain⟨h1,h2,h3,h4⟩:=wR hT h hG hS;refine⟨h1,h2,h3,fun B S K hK=>?_⟩;unfold cy;rw[hc];exact⟨by rw[alc];exact hb,h4 B S K _ hK⟩
 .rename_i hc;obtain⟨hb,h⟩:=eW h;obtain⟨h1,h2,h3,h4⟩:=wR hT h hG hS;refine⟨h1,h2,h3,fun B S K hK=>?_⟩;unfold cy;rw[hc];exact⟨hb,h4 B S K _ hK⟩
 .cases h
theorem wQ(hT:T.OK P)(hp:oh P dR):∀(l:List CD) {n:Nat} {rg:ag} {q:Store} {al:ag} {af:Store} {n':Nat},xM T cfg dR aq l rg q n=some (al,af,n')->db n rg->cI n q->
  n<=n'/\db n' al/\cI n' af/\∀(B:BM) (S:Store) (K:ag->Store->Prop),
   (∀B',Agree n B B'->K (bP B' al) (aS B' af++S))->da P cfg aq l K (bP B rg) (aS B q++S)
 |[],n,rg,q,al,af,n',h,hG,hS=>by cases h;exact⟨ZO _,hG,hS,fun B S K hK=>hK B (.refl _ _)⟩|c::l,n,rg,q,al,af,n',h,hG,hS=>by
  have step:(match BU T cfg dR aq c.cf (c.c.d.getD 0) n rg q c.c.op with
     |some (x,af,n')=>xM T cfg dR aq l (bB c.c.d x rg) af n'|none=>none)=some (al,af,n')->
    n<=n'/\db n' al/\cI n' af/\∀(B:BM) (S:Store) (K:ag->Store->Prop),
     (∀B',Agree n B B'->K (bP B' al) (aS B' af++S))->cy P cfg aq c.cf c.c.d (bP B rg) (aS B q++S) (fun x af=>da P cfg aq l K (bB c.c.d x (bP B rg)) af) c.c.op:=by
   intro h;split at h
   .rename_i x1 aR n1 hx;obtain⟨h1,h2,h3,h4⟩:=amA hT hp hx hG hS;obtain⟨k1,k2,k3,k4⟩:=wQ hT hp l h ((hG.le h1).put h2 _) h3;refine⟨ZD h1 k1,k2,k3,fun B S K hK=>h4 B S _ fun B' hA=>?_⟩;have:=k4 B' S K fun uI ri=>hK uI (hA.trans (ri.le h1));rw[anr,<-hG B B' hA]at this;exact this
   .cases h
  simp only[xM]at h;split at h
  .rename_i hg;obtain⟨h1,h2,h3,h4⟩:=step h;refine⟨h1,h2,h3,fun B S K hK=>?_⟩;simp only[da,c9,hg];exact h4 B S K hK
  .rename_i t want hg;split at h
   .rename_i b hb;split at h
    .rename_i e;have e:b=want:=by simpa using e
     subst e;obtain⟨h1,h2,h3,h4⟩:=step h;refine⟨h1,h2,h3,fun B S K hK=>?_⟩;simp only[da,c9,hg,mZ,hb,au];exact⟨fun _=>h4 B S K hK,fun e=>absurd e (by cases b<;>decide)⟩
    .rename_i e;have e:b= !want:=by revert e;cases b<;>cases want<;>decide
     subst e;obtain⟨k1,k2,k3,k4⟩:=wQ hT hp l h (hG.put (gZ.v _ _) _) hS;refine⟨k1,k2,k3,fun B S K hK=>?_⟩;simp only[da,c9,hg,mZ,hb,au];have:=k4 B S K hK;rw[anr]at this;exact⟨fun e=>absurd e (by cases want<;>decide),fun _=>this⟩
   .rename_i hb;obtain⟨k1,k2,k3,k4⟩:=wQ hT hp l h (hG.put (gZ.v _ _) _) hS;refine⟨k1,k2,k3,fun B S K hK=>?_⟩;simp only[da,c9,hg,mZ,hb,au];have:=k4 B S K hK;rw[anr]at this;exact this
   .cases h
