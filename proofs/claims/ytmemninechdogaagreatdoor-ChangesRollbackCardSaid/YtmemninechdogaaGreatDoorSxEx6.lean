import Derived.Test.YtmemninechdogaaGreatDoorSxEx
set_option linter.all false
namespace Go.Sx
open Go.RowKit
def Agree(n:Nat)(B B':BM):Prop:=∀i,i<n->B i=B' i
theorem Agree.refl(n:Nat)(B:BM):Agree n B B:=fun _ _=>rfl
theorem Agree.trans{n:Nat}{A B C:BM}(h:Agree n A B)(k:Agree n B C):Agree n A C:=fun i hi=>(h i hi).trans (k i hi)
theorem Agree.symm{n:Nat}{A B:BM}(h:Agree n A B):Agree n B A:=fun i hi=>(h i hi).symm
theorem Agree.le{n m:Nat}{A B:BM}(h:Agree n A B)(hm:m<=n):Agree m A B:=fun i hi=>h i (by omega)
def gZ(n:Nat)(x:AV):Prop:=∀B B',Agree n B B'->au B x=au B' x
def sK(n:Nat)(x:List AV):Prop:=∀B B',Agree n B B'->aI B x=aI B' x
def db(n:Nat)(x:ag):Prop:=∀B B',Agree n B B'->bP B x=bP B' x
def cI(n:Nat)(x:Store):Prop:=∀B B',Agree n B B'->aS B x=aS B' x
theorem db.le{n m:Nat}{x:ag}(h:db n x)(hm:n<=m):db m x:=fun B B' k=>h B B' (k.le hm)
theorem cI.le{n m:Nat}{x:Store}(h:cI n x)(hm:n<=m):cI m x:=fun B B' k=>h B B' (k.le hm)
theorem db.put{n:Nat}{x:AV}{rg:ag}(h:db n rg)(k:gZ n x)(d:Option Nat):db n (bB d x rg):=fun B B' e=>by rw[anr,anr,h B B' e,k B B' e]
theorem db.cons{n t:Nat}{v:Value}{rg:ag}(h:db n rg):db n ((t,.v v)::rg):=fun B B' e=>by simp only[bP,h B B' e,au]
theorem gZ.v(n:Nat)(v:Value):gZ n (.v v):=fun _ _ _=>rfl
section
variable {P:Program}[Glob P]{T:XT}{cfg:Nat->Nat}{call:FuncId->List AV->Store->Nat->XO}
def iY(P:Program)[Glob P](call:FuncId->List AV->Store->Nat->XO):Prop:=
 ∀f as q n x af n',call f as q n=some (x,af,n')->sK n as->cI n q->n<=n'/\gZ n' x/\cI n' af/\
  ∀B S,Spec P f (aI B as) (aS B q++S) fun r X=>∃B',Agree n B B'/\r= .ret (au B' x)/\X=aS B' af++S
def ku(P:Program)[Glob P](T:XT):Prop:=
 ∀op ty ti args as d n q x af n',T.ops op ty ti args as d n q=some (x,af,n')->sK n as->cI n q->n<=n'/\gZ n' x/\cI n' af/\
  ∀B S,fH P op ty ti args (aI B as) (aS B q++S) fun r X=>∃B',Agree n B B'/\r=au B' x/\X=aS B' af++S
theorem db.aL{n:Nat}{rg:ag}(h:db n rg)(l:List Operand):sK n (aL rg l):=fun B B' k=>by rw[<-lK,<-lK,h B B' k]
theorem db.ev{n:Nat}{rg:ag}(h:db n rg)(l:Operand):gZ n (ev rg l):=fun B B' k=>by rw[<-dx,<-dx,h B B' k]
def Mh(P:Program)[Glob P](cfg:Nat->Nat)(dd:Option Nat)(n:Nat)(rg:ag)(q:Store)(op:aB)(x:AV)(af:Store)(n':Nat):Prop:=
 n<=n'/\gZ n' x/\cI n' af/\∀(B:BM) (S:Store) (K:AV->Store->Prop) (E:List PanicEntry->Store->Prop),
  (∀B',Agree n B B'->K (au B' x) (aS B' af++S))->ak P cfg dd (bP B rg) (aS B q++S) K E op
theorem wR(hT:T.OK P){dd:Option Nat}{n:Nat}{rg:ag}{q:Store}{op:aB}{x:AV}{af:Store}{n':Nat}(h:oe T cfg (dd.getD 0) n rg q op=some (x,af,n'))
  (hG:db n rg) (hS:cI n q):Mh P cfg dd n rg q op x af n':=by
 unfold oe at h;split at h
 .rename_i x1 aR f hx;cases h;have key:∀B B',Agree (n+1) B B'->au B x=au B' x/\aS B af=aS B' af:=by
   intro B B' hA;have h1:=FZ (B:=B) (S:=[]) hT hx;have h2:=FZ (B:=B') (S:=[]) hT hx;rw[hG B B' (hA.le (Nat.le_succ _)),hS B B' (hA.le (Nat.le_succ _)),hA n (Yc _),h2]at h1;grind
  refine⟨Nat.le_succ _,fun B B' k=>(key B B' k).1,fun B B' k=>(key B B' k).2,fun B S K E hK=>?_⟩;refine US hT fun b u c=>?_
  let B':BM:=fun i=>if i=n then(b,u,c)else B i
  have hA:Agree n B B':=fun i hi=>by grind
  have h1:=FZ (B:=B') (S:=S) hT hx;have e:B' n=(b,u,c):=Z3 rfl;rw[e,← hG B B' hA,← hS B B' hA]at h1;grind
 grind
theorem C0:∀{l:List AV} {m:List Value},iq l=some m->l=m.map .v
 |[],_,h=>by cases h;rfl|.v x::l,m,h=>by
  simp only[iq,Z8]at h;obtain⟨m',h1,rfl⟩:=h;rw[C0 h1];rfl
theorem u9:∀{l:List AV} {m:List Value},bR l=some m->cj (m.map .v) l
 |[],_,h=>by cases h;exact .nil|.v x::l,m,h=>by
  simp only[bR,Z8]at h;obtain⟨m',h1,rfl⟩:=h;exact .cons (.refl _) (u9 h1)
 |.lp t b o::l,m,h=>by simp only[bR,Z8]at h;obtain⟨m',h1,rfl⟩:=h;exact .cons .raw (u9 h1)
 |.agg xs::l,m,h=>by
  simp only[bR]at h;split at h
  .rename_i cs hc;simp at h;obtain⟨m',h1,rfl⟩:=h;refine .cons (fun M v k=>?_) (u9 h1);rw[k.aC,C0 hc];exact R.rM (RL.exact _)
  grind
theorem xt{B B':BM}:∀{a:List AV} {m:List Value},bR (aI B a)=some m->bR (aI B' a)=some m->aI B a=aI B' a
 |[],_,_,_=>rfl|.v x::l,m,h,h'=>by simp only[aI,au,bR,Z8]at h h'|-;obtain⟨m1,h1,rfl⟩:=h;obtain⟨m2,h2,e⟩:=h';cases e;rw[xt h1 h2]
 |.lp t b o::l,m,h,h'=>by simp only[aI,au,bR,Z8]at h h'|-;obtain⟨m1,h1,rfl⟩:=h;obtain⟨m2,h2,e⟩:=h';simp only[Z2,Value.pointer.injEq,ZV,Addr.mk.injEq,Zn]at e;rw[e.1,xt h1 (e.2 ▸ h2)]
 |.agg xs::l,m,h,h'=>by
  simp only[aI,au,bR]at h h'|-;split at h
  .rename_i cs hc;split at h'
   .rename_i cs' gG;simp only[Z8]at h h';obtain⟨m1,h1,rfl⟩:=h;obtain⟨m2,h2,e⟩:=h';simp only[Z2,Value.agg.injEq]at e;have e1:cs'=cs:=by grind
    rw[C0 hc,C0 gG,e1,xt h1 (e.2 ▸ h2)]
   grind
  grind
 |.cl g a c::l,m,h,h'=>by
  simp only[aI]at h h'|-;rcases jk (B:=B) g a c with⟨a1,c1,_,_,e1⟩|⟨_,e1⟩<;>rcases jk (B:=B') g a c with⟨a2,c2,_,_,e2⟩|⟨_,e2⟩<;>rw[e1]at h|-<;>rw[e2]at h'|-<;>simp only[bR,reduceCtorEq,Z8]at h h'
  obtain⟨m1,h1,rfl⟩:=h;obtain⟨m2,h2,e⟩:=h';cases e;rw[xt h1 h2]
 |.any::l,m,h,h'=>by simp[aI,au,bR]at h|.aG _::l,m,h,h'=>by simp[aI,au,bR]at h|.pc _::l,m,h,h'=>by simp[aI,au,bR]at h|.sl .. ::l,m,h,h'=>by simp[aI,au,bR]at h|.fl .. ::l,m,h,h'=>by simp[aI,au,bR]at h|.own .. ::l,m,h,h'=>by simp[aI,au,bR]at h|.ms .. ::l,m,h,h'=>by simp[aI,au,bR]at h|.bJ .. ::l,m,h,h'=>by simp[aI,au,bR]at h|.dD .. ::l,m,h,h'=>by simp[aI,au,bR]at h|.ai _::l,m,h,h'=>by simp[aI,au,bR]at h
theorem gZ.parts{n:Nat}{f:FuncId}{a c:List AV}(h:gZ n (.cl f a c)):sK n a/\sK n c:=by
 have key:∀B B',Agree n B B'->aI B a=aI B' a/\aI B c=aI B' c:=fun B B' k=>by
  have e:=h B B' k;rcases jk (B:=B) f a c with⟨a1,c1,oK,bC,e1⟩|⟨_,e1⟩<;>rcases jk (B:=B') f a c with⟨a2,c2,lR,bO,e2⟩|⟨_,e2⟩<;>rw[e1,e2]at e<;>simp only[AV.v.injEq,Value.func.injEq,AV.cl.injEq,reduceCtorEq,Yg]at e
  .have q1:a1=a2:=by grind
   have q2:c1=c2:=by grind
   exact⟨xt oK (q1 ▸ lR),xt bC (q2 ▸ bO)⟩
  grind
 exact⟨fun B B' k=>(key B B' k).1,fun B B' k=>(key B B' k).2⟩
theorem uB(B:BM)(a:Array Value):aI B (a.toList.map .v)=a.toList.map .v:=yA _
theorem UT(hT:T.OK P)(hc:iY P call)(ho:ku P T){dd:Option Nat}{n:Nat}{rg:ag}{q:Store}{op:aB}{x:AV}{af:Store}{n':Nat}
  (h:xS T cfg call (dd.getD 0) n rg q op=some (x,af,n')) (hG:db n rg) (hS:cI n q):Mh P cfg dd n rg q op x af n':=by
 have Ai:∀{f:FuncId} {as:List AV} {n':Nat},call f as q n=some (x,af,n')->sK n as->n<=n'/\gZ n' x/\cI n' af/\∀(B:BM) (S:Store) (K:AV->Store->Prop) (E:List PanicEntry->Store->Prop),
   (∀B',Agree n B B'->K (au B' x) (aS B' af++S))->pA P f (aI B as) (aS B q++S) K E:=by
  intro f as n' h hL;obtain⟨h1,h2,h3,h4⟩:=hc _ _ _ _ _ _ _ h hL hS;exact⟨h1,h2,h3,fun B S K E hK=>⟨_,h4 B S,fun y X ⟨B',a,b,c⟩=>by grind,fun ch X ⟨B',a,b,c⟩=>by cases b⟩⟩
 cases op with
 |call f args=>obtain⟨h1,h2,h3,h4⟩:=Ai h (hG.aL args);exact⟨h1,h2,h3,fun B S K E hK=>by simp only[ak,lK];grind⟩
 |fZ fo args=>
  simp only[xS]at h;split at h
  .rename_i f a c hf;obtain⟨hb,h⟩:=eW h;obtain⟨h1,h2,h3,h4⟩:=Ai h (fun B B' k=>by rw[jM,jM,jM,jM,uB,uB,uB,uB,hG.aL args B B' k]);refine⟨h1,h2,h3,fun B S K E hK=>?_⟩;simp only[ak,dx,hf,au];have:=h4 B S K E hK;rw[jM,jM,uB,uB,<-lK]at this;exact⟨hT.can _ hb,this⟩
  .rename_i f a c hf;obtain⟨hb,h⟩:=eW h;have Pl:=hG.ev fo;rw[hf]at Pl;obtain⟨fa,fc⟩:=Pl.parts;obtain⟨h1,h2,h3,h4⟩:=Ai h (fun B B' k=>by rw[jM,jM,jM,jM,fa B B' k,fc B B' k,hG.aL args B B' k]);refine⟨h1,h2,h3,fun B S K E hK=>?_⟩;simp only[ak,dx,hf];have:=h4 B S K E hK;rw[jM,jM,<-lK]at this;rcases jk (B:=B) f a c with⟨a1,c1,oK,bC,e1⟩|⟨_,e1⟩<;>rw[e1]
   .obtain⟨Q,q1,q2⟩:=this;exact⟨hT.can _ hb,Q,q1.wk (((u9 oK).append (cj.refl _)).append (u9 bC)),q2⟩
   .exact⟨hT.can _ hb,this⟩
  grind
 |exts op ty ti args=>obtain⟨h1,h2,h3,h4⟩:=ho _ _ _ _ _ _ _ _ _ _ _ h (hG.aL args) hS;exact⟨h1,h2,h3,fun B S K E hK=>by simp only[ak,lK];exact(h4 B S).mono fun y X ⟨B',a,b,c⟩=>by grind⟩
 |cL op ty ti args=>
  simp only[xS]at h;split at h
  .rename_i r hr;cases h;exact wR hT hr hG hS
  .obtain⟨h1,h2,h3,h4⟩:=ho _ _ _ _ _ _ _ _ _ _ _ h (hG.aL args) hS;exact⟨h1,h2,h3,fun B S K E hK=>by simp only[ak,lK];exact(h4 B S).mono fun y X ⟨B',a,b,c⟩=>by subst b c;exact hK B' a⟩
 |_=>exact wR hT h hG hS
theorem FX(hT:T.OK P)(hc:iY P call)(ho:ku P T):∀(l:List CI) {n:Nat} {rg:ag} {q:Store} {al:ag} {af:Store} {n':Nat},xL T cfg call l rg q n=some (al,af,n')->db n rg->cI n q->
  n<=n'/\db n' al/\cI n' af/\∀(B:BM) (S:Store) (K:ag->Store->Prop) (E:List PanicEntry->Store->Prop),
   (∀B',Agree n B B'->K (bP B' al) (aS B' af++S))->ko P cfg l K E (bP B rg) (aS B q++S)
 |[],n,rg,q,al,af,n',h,hG,hS=>by cases h;exact⟨ZO _,hG,hS,fun B S K E hK=>hK B (.refl _ _)⟩|c::l,n,rg,q,al,af,n',h,hG,hS=>by
  have step:∀{eK:ag},db n eK->(match xS T cfg call (c.d.getD 0) n eK q c.op with
     |some (x,af,n')=>xL T cfg call l (bB c.d x eK) af n'|none=>none)=some (al,af,n')->
    n<=n'/\db n' al/\cI n' af/\∀(B:BM) (S:Store) (K:ag->Store->Prop) (E:List PanicEntry->Store->Prop),
     (∀B',Agree n B B'->K (bP B' al) (aS B' af++S))->ak P cfg c.d (bP B eK) (aS B q++S) (fun x af=>ko P cfg l K E (bB c.d x (bP B eK)) af) E c.op:=by
   intro eK hG h;split at h
   .rename_i x1 aR n1 hx;obtain⟨h1,h2,h3,h4⟩:=UT hT hc ho hx hG hS;obtain⟨k1,k2,k3,k4⟩:=FX hT hc ho l h ((hG.le h1).put h2 _) h3;refine⟨ZD h1 k1,k2,k3,fun B S K E hK=>h4 B S _ E fun B' hA=>?_⟩;have:=k4 B' S K E fun uI ri=>hK uI (hA.trans (ri.le h1));rw[anr,← hG B B' hA]at this;grind
   grind
  simp only[xL]at h;split at h
  .rename_i hg;obtain⟨h1,h2,h3,h4⟩:=step hG h;refine⟨h1,h2,h3,fun B S K E hK=>?_⟩;simp only[ko,hg];simp_all
  .rename_i t want hg;split at h
   .rename_i b hb;split at h
    .rename_i e;have e:b=want:=by grind
     subst e;obtain⟨h1,h2,h3,h4⟩:=step hG.cons h;refine⟨h1,h2,h3,fun B S K E hK=>?_⟩;simp only[ko,hg,mZ,hb,au];exact⟨fun _=>h4 B S K E hK,fun e=>absurd e (by grind)⟩
    .rename_i e;have e:b= !want:=by revert e;cases b<;>cases want<;>decide
     subst e;obtain⟨k1,k2,k3,k4⟩:=FX hT hc ho l h (hG.cons.put (gZ.v _ _) _) hS;refine⟨k1,k2,k3,fun B S K E hK=>?_⟩;simp only[ko,hg,mZ,hb,au];have:=k4 B S K E hK;rw[anr]at this;exact⟨fun e=>absurd e (by cases want<;>decide),fun _=>this⟩
   .rename_i hb;obtain⟨k1,k2,k3,k4⟩:=FX hT hc ho l h (hG.put (gZ.v _ _) _) hS;refine⟨k1,k2,k3,fun B S K E hK=>?_⟩;simp only[ko,hg,mZ,hb,au];have:=k4 B S K E hK;rw[anr]at this;exact this
   grind
end
section
variable {P:Program}[Glob P]{T:XT}{cfg:Nat->Nat}{dR:FuncId->List AV->Nat->Option AV}{B:BM}{aq cf:List Nat}
theorem Q0(x:AV):rK (au B x)=rK x:=by
 cases x with
 |cl g a c=>rcases jk (B:=B) g a c with⟨a',c',_,_,e⟩|⟨_,e⟩<;>rw[e]<;>rfl
 |_=>rfl
theorem ahk(rg:ag)(t s:Nat):o6 (bP B rg) t s=o6 rg t s:=by simp only[o6,mZ,Q0]
theorem ahp(rg:ag)(op:aB):mY aq cf (bP B rg) op=mY aq cf rg op:=by
 cases op<;>try rfl
 simp only[mY,dx];have e:o6 (bP B rg)=o6 rg:=funext fun t=>funext fun s=>ahk rg t s;rw[e];generalize ev rg _=y;cases y with
 |cl g a c=>rcases jk (B:=B) g a c with⟨a',c',_,_,e⟩|⟨_,e⟩<;>rw[e]
 |_=>rfl
theorem alc(rg:ag)(op:aB):oa aq cf (bP B rg) op=oa aq cf rg op:=by
 cases op<;>try rfl
 simp only[oa,dx,mZ,Q0];generalize ev rg _=y;cases y with
 |cl g a c=>rcases jk (B:=B) g a c with⟨a',c',_,_,e⟩|⟨_,e⟩<;>rw[e]
 |_=>rfl
def oh(P:Program)[Glob P](dR:FuncId->List AV->Nat->Option AV):Prop:=
 ∀f as n r,dR f as n=some r->(∀B,au B r=r)/\∀B,Pure P f (aI B as) r
theorem amB(hT:T.OK P){dd:Option Nat}{b u c:Nat}{rg:ag}{q:Store}{op:aB}{x:AV}{af:Store}{f:Bool}{K:AV->Prop}(bL:op.cls=0)(hm:∀t e ps,op= .TO t e ps->cfg (dd.getD 0)=0\/cfg (dd.getD 0)=3)
  (h:xO T cfg true (dd.getD 0) b u c rg q op=some (x,af,f)) (hK:K x):aM P cfg dd rg q K op:=by
 cases op with
 |TO t e ps=>
  have h0:=hm t e ps rfl;simp only[xO]at h;simp only[aM];split at h
  .rename_i rows hr;obtain⟨hb,h⟩:=eW h;simp only[hr];refine⟨ZE hb,?_⟩;grind
  grind
 |call f args=>cases h|fZ f args=>cases h|cL op ty ti args=>
  simp only[xO]at h;simp only[aM];split at h
  .rename_i as has;split at h
   .rename_i r hr;cases h;refine⟨_,⟨fun q=>?_⟩,hK⟩;exact fun bu M w0 w Y hI hR=>(hT.uk _ _ _ _ _ _ hr).1.sp q bu M w0 w Y hI ((su has).sound hR)
   grind
  grind
 |len str x=>
  cases str with
  |true=>
   simp only[xO,gC]at h;simp only[aM];split at h
   .rename_i hx;rw[hx];cases h;exact hK
   grind
  |false=>simp only[xO,gC]at h;simp only[aM];split at h<;>first|(cases h;done)|(rename_i hx;rw[hx];cases h;exact hK)
 |box t x=>cases bL|alloc t z=>cases bL|store n x y=>cases bL|append t n k z x y=>cases bL|exts op ty ti args=>cases bL|panic x=>cases bL|load a n x=>cases bL|_=>
  simp only[aM];exact US (K:=fun x _=>K x) hT fun b' u' c'=>⟨_,_,_,(by simp only[xO]at h|-;exact h),hK⟩
theorem amD{rl:Bool}{d b u c:Nat}{rg:ag}{q:Store}{op:aB}{x:AV}{af:Store}{f:Bool}(bL:op.cls=0)(hm:∀t e ps,op= .TO t e ps->cfg d=0\/cfg d=3)
  (h:xO T cfg rl d b u c rg q op=some (x,af,f)):af=q:=by
 cases op with
 |TO t e ps=>simp only[xO]at h;grind|box t x=>cases bL|alloc t z=>cases bL|store n x y=>cases bL|append t n k z x y=>cases bL|exts op ty ti args=>cases bL|panic x=>cases bL|load a n x=>cases bL|len s x=>
  cases s<;>simp only[xO,gC]at h<;>split at h<;>cases h<;>rfl
 |field agg off m x=>simp only[xO]at h;grind|_=>simp only[xO,mI,zK,tj,gC]at h;grind
def Gk(P:Program)[Glob P](cfg:Nat->Nat)(aq cf:List Nat)(dd:Option Nat)(n:Nat)(rg:ag)(q:Store)(op:aB)(x:AV)(af:Store)(n':Nat):Prop:=
 n<=n'/\gZ n' x/\cI n' af/\∀(B:BM) (S:Store) (K:AV->Store->Prop),
  (∀B',Agree n B B'->K (au B' x) (aS B' af++S))->cy P cfg aq cf dd (bP B rg) (aS B q++S) K op
theorem amC(hT:T.OK P)(hp:oh P dR){dd:Option Nat}{n:Nat}{rg:ag}{q:Store}{op:aB}{x:AV}{af:Store}{n':Nat}(bL:op.cls=0)
  (h:BV T cfg dR (dd.getD 0) n rg q op=some (x,af,n')) (hG:db n rg) (hS:cI n q):Gk P cfg aq cf dd n rg q op x af n':=by
 have gen:∀{op:aB},op.cls=0->(∀t e ps,op= .TO t e ps->cfg (dd.getD 0)=0\/cfg (dd.getD 0)=3)->oe T cfg (dd.getD 0) n rg q op=some (x,af,n')->Gk P cfg aq cf dd n rg q op x af n':=by
  intro op bL hm h;obtain⟨h1,h2,h3,_⟩:=wR hT h hG hS;unfold oe at h;split at h
  .rename_i x1 aR f hx;cases h;have e:=amD bL hm hx;subst e;refine⟨h1,h2,h3,fun B S K hK=>?_⟩;unfold cy;rw[bL];exact amB hT bL hm (FZ (B:=B) (S:=S) hT hx) (hK B (.refl _ _))
  grind
 have GJ:∀{f:FuncId} {as:List AV} {K:AV->Prop} {B:BM},dR f as n=some x->K x->wY P f (aI B as) K:=fun h hK=>⟨_,(hp _ _ _ _ h).2 _,hK⟩
 cases op with
 |TO t e ps=>
  simp only[BV]at h;split at h
  .grind
  .grind
  grind
 |call f args=>simp only[BV]at h;obtain⟨r,h1,h2⟩:=Z8.1 h;cases h2;have hf:=(hp _ _ _ _ h1).1;refine⟨ZO _,fun B B' _=>by grind,hS,fun B S K hK=>?_⟩;have:=hK B (.refl _ _);rw[hf]at this;simp only[cy,aB.cls,aM,lK];grind
 |fZ fo args=>
  simp only[BV]at h;split at h
  .rename_i f a c I0;obtain⟨hb,h⟩:=eW h;obtain⟨r,h1,h2⟩:=Z8.1 h;cases h2;have hf:=(hp _ _ _ _ h1).1;refine⟨ZO _,fun B B' _=>by grind,hS,fun B S K hK=>?_⟩;have:=hK B (.refl _ _);rw[hf]at this;simp only[cy,aB.cls,aM,dx,I0,au];have:=GJ (B:=B) (K:=fun x=>K x (aS B q++S)) h1 this;rw[jM,jM,uB,uB,← lK]at this;exact⟨hT.can _ hb,this⟩
  .rename_i f a c I0;obtain⟨hb,h⟩:=eW h;obtain⟨r,h1,h2⟩:=Z8.1 h;cases h2;have hf:=(hp _ _ _ _ h1).1;refine⟨ZO _,fun B B' _=>by rw[hf,hf],hS,fun B S K hK=>?_⟩;have:=hK B (.refl _ _);rw[hf]at this;simp only[cy,aB.cls,aM,dx,I0];have:=GJ (B:=B) (K:=fun x=>K x (aS B q++S)) h1 this;rw[jM,jM,<-lK]at this;rcases jk (B:=B) f a c with⟨a1,c1,oK,bC,e1⟩|⟨_,e1⟩<;>rw[e1]
   .obtain⟨r,q1,q2⟩:=this;exact⟨hT.can _ hb,r,q1.wk (((u9 oK).append (cj.refl _)).append (u9 bC)),q2⟩
   .exact⟨hT.can _ hb,this⟩
  grind
 |_=>exact gen bL (fun _ _ _ e=>nomatch e) h
theorem amA(hT:T.OK P)(hp:oh P dR){dd:Option Nat}{n:Nat}{rg:ag}{q:Store}{op:aB}{x:AV}{af:Store}{n':Nat}
  (h:BU T cfg dR aq cf (dd.getD 0) n rg q op=some (x,af,n')) (hG:db n rg) (hS:cI n q):Gk P cfg aq cf dd n rg q op x af n':=by
 unfold BU at h;split at h
 .rename_i hc;exact amC hT hp hc h hG hS
 .rename_i hc;obtain⟨hb,h⟩:=eW h;obtain⟨h1,h2,h3,h4⟩:=wR hT h hG hS;refine⟨h1,h2,h3,fun B S K hK=>?_⟩;unfold cy;rw[hc];exact⟨by rw[ahp];grind,h4 B S K _ hK⟩
 .obtain⟨h1,h2,h3,h4⟩:=wR hT h hG hS;refine⟨h1,h2,h3,fun B S K hK=>?_⟩;unfold cy;grind
 .rename_i hc;obtain⟨hb,h⟩:=eW h;obtain⟨h1,h2,h3,h4⟩:=wR hT h hG hS;refine⟨h1,h2,h3,fun B S K hK=>?_⟩;unfold cy;rw[hc];exact⟨by rw[alc];grind,h4 B S K _ hK⟩
 .obtain⟨hb,h⟩:=eW h;obtain⟨h1,h2,h3,h4⟩:=wR hT h hG hS;refine⟨h1,h2,h3,fun B S K hK=>?_⟩;unfold cy;grind
 grind
theorem wQ(hT:T.OK P)(hp:oh P dR):∀(l:List CD) {n:Nat} {rg:ag} {q:Store} {al:ag} {af:Store} {n':Nat},xM T cfg dR aq l rg q n=some (al,af,n')->db n rg->cI n q->
  n<=n'/\db n' al/\cI n' af/\∀(B:BM) (S:Store) (K:ag->Store->Prop),
   (∀B',Agree n B B'->K (bP B' al) (aS B' af++S))->da P cfg aq l K (bP B rg) (aS B q++S)
 |[],n,rg,q,al,af,n',h,hG,hS=>by cases h;exact⟨ZO _,hG,hS,fun B S K hK=>hK B (.refl _ _)⟩|c::l,n,rg,q,al,af,n',h,hG,hS=>by
  have step:(match BU T cfg dR aq c.cf (c.c.d.getD 0) n rg q c.c.op with
     |some (x,af,n')=>xM T cfg dR aq l (bB c.c.d x rg) af n'|none=>none)=some (al,af,n')->
    n<=n'/\db n' al/\cI n' af/\∀(B:BM) (S:Store) (K:ag->Store->Prop),
     (∀B',Agree n B B'->K (bP B' al) (aS B' af++S))->cy P cfg aq c.cf c.c.d (bP B rg) (aS B q++S) (fun x af=>da P cfg aq l K (bB c.c.d x (bP B rg)) af) c.c.op:=by
   intro h;split at h
   .rename_i x1 aR n1 hx;obtain⟨h1,h2,h3,h4⟩:=amA hT hp hx hG hS;obtain⟨k1,k2,k3,k4⟩:=wQ hT hp l h ((hG.le h1).put h2 _) h3;refine⟨ZD h1 k1,k2,k3,fun B S K hK=>h4 B S _ fun B' hA=>?_⟩;have:=k4 B' S K fun uI ri=>hK uI (hA.trans (ri.le h1));rw[anr,← hG B B' hA]at this;grind
   grind
  simp only[xM]at h;split at h
  .rename_i hg;obtain⟨h1,h2,h3,h4⟩:=step h;refine⟨h1,h2,h3,fun B S K hK=>?_⟩;simp only[da,c9,hg];simp_all
  .rename_i t want hg;split at h
   .rename_i b hb;split at h
    .rename_i e;have e:b=want:=by grind
     subst e;obtain⟨h1,h2,h3,h4⟩:=step h;refine⟨h1,h2,h3,fun B S K hK=>?_⟩;simp only[da,c9,hg,mZ,hb,au];simp_all
    .rename_i e;have e:b= !want:=by revert e;cases b<;>cases want<;>decide
     subst e;obtain⟨k1,k2,k3,k4⟩:=wQ hT hp l h (hG.put (gZ.v _ _) _) hS;refine⟨k1,k2,k3,fun B S K hK=>?_⟩;simp only[da,c9,hg,mZ,hb,au];have:=k4 B S K hK;rw[anr]at this;exact⟨fun e=>absurd e (by grind),fun _=>this⟩
   .rename_i hb;obtain⟨k1,k2,k3,k4⟩:=wQ hT hp l h (hG.put (gZ.v _ _) _) hS;refine⟨k1,k2,k3,fun B S K hK=>?_⟩;simp only[da,c9,hg,mZ,hb,au];have:=k4 B S K hK;rw[anr]at this;exact this
   grind
end
theorem cj.trans{a b c:List AV}(h:cj a b)(k:cj b c):cj a c:=by
 induction h generalizing c with
 |nil=>exact k|cons hx _ ih=>cases k with
  |cons hy ht=>exact .cons (hx.trans hy) (ih ht)
inductive BW:aE->aE->Prop
 |cells {l m:List AV} (h:cj l m):BW (.cells l) (.cells m)
 |tail (u c:Nat):BW (.tail u c) (.tail u c)
 |map {es CZ:List (Value×Nat×AV)} (k:Nat) (h:es.map (fun e=>(e.1,e.2.1))=CZ.map (fun e=>(e.1,e.2.1))) (hw:cj (es.map (·.2.2)) (CZ.map (·.2.2))):BW (.map es k) (.map CZ k)
inductive dA:Store->Store->Prop
 |nil:dA [] []
 |skip {af q:Store} (e:Nat×Nat×aE) (h:dA af q):dA af (e::q)
 |aH {af q:Store} (t t' b:Nat) {x y:aE} (hb:BW x y) (h:dA af q):dA ((t',b,y)::af) ((t,b,x)::q)
theorem BW.ok{M:Mem}{w:World}{b:Nat}{x y:aE}(h:BW x y)(k:BlkOK M w b x):BlkOK M w b y:=by
 cases h with
 |cells h=>obtain⟨k1,cs,t,k2,k3⟩:=k;exact⟨k1,cs,t,k2,h.sound k3⟩
 |tail u c=>exact k|map k0 h hw=>obtain⟨k1,l,k2,k3,k4⟩:=k;exact⟨k1,l,k2,k3.trans h,hw.sound k4⟩
theorem dA.mem{af q:Store}(h:dA af q):∀e∈af,∃e0∈q,e0.2.1=e.2.1/\BW e0.2.2 e.2.2:=by
 induction h with
 |nil=>grind|skip e _ ih=>grind|aH t t' b hb _ ih=>
  intro x hx;rcases ZR.1 hx with rfl|hx
  .exact⟨_,ZK,rfl,hb⟩
  grind
theorem dA.blocks{af q:Store}(h:dA af q):(af.map (·.2.1)).Sublist (q.map (·.2.1)):=by
 induction h with
 |nil=>grind|skip e _ ih=>grind|aH t t' b hb _ ih=>grind
theorem Inv.Lc{P:Program}[Glob P]{M:Mem}{w0:Base}{w:World}{q af:Store}(hI:Inv P M w0 af w)(h:dA q af):Inv P M w0 q w:=by refine⟨hI.os,hI.tape,hI.output,hI.size,hI.old,hI.bZ,fun e he=>?_,hI.nd.sublist h.blocks,hI.gl,hI.gw,hI.bm⟩;obtain⟨e0,h1,h2,h3⟩:=h.mem e he;obtain⟨k1,k2⟩:=hI.st e0 h1;rw[h2]at k1 k2;exact⟨k1,h3.ok k2⟩
theorem SW.FT{P:Program}[Glob P]{N:Nat}{s:SC}{Q:Exit->ag->Store->Prop}{rg al:ag}{q af:Store}(h:SW P N s Q al af)(hr:il rg al)(hs:dA af q):SW P N s Q rg q:=
 fun c hc M w0 a w hI hR hN hD=>h c hc M w0 a w (hI.Lc hs) (fun i=>hr.lk i _ _ (hR i)) hN hD
theorem Spec.aiI{P:Program}[Glob P]{f:FuncId}{as bs:List AV}{q af:Store}{Q:ik->Store->Prop}(h:Spec P f bs af Q)(hw:cj as bs)(hs:dA af q):Spec P f as q Q:=
 fun M w0 w cs hI hl=>h M w0 w cs (hI.Lc hs) (hw.sound hl)
theorem Spec.EK{P:Program}[Glob P]{f:FuncId}{as:List AV}{q:Store}{Q Q':ik->Store->Prop}(h:Spec P f as q Q)(hq:∀r af,Q r af->∃r2 aK,Q' r2 aK/\dA aK af/\(match r,r2 with|.ret x,.ret y=>Wk x y|.ke c,.ke c'=>c=c'|_,_=>False)):Spec P f as q Q':=by
 intro M w0 w cs hI hl;refine(h M w0 w cs hI hl).mono fun e w' ⟨M',r,af,a,b,c,d⟩=>?_;obtain⟨r2,aK,h1,h2,h3⟩:=hq r af d;refine⟨M',r2,aK,a,b.Lc h2,?_,h1⟩;cases r<;>cases r2<;>cases e<;>simp only[jV]at c h3|-<;>try omega
 .exact h3 _ _ c
 grind
theorem dA.refl:∀q:Store,dA q q
 |[]=>.nil|(t,b,x)::q=>.aH _ _ _ (by
   cases x with
   |cells l=>exact .cells (cj.refl l)|tail u c=>exact .tail u c|map es k=>exact .map k rfl (cj.refl _)) (dA.refl q)
theorem dA.app{a b c d:Store}(h:dA a b)(k:dA c d):dA (a++c) (b++d):=by
 induction h with
 |nil=>exact k|skip e _ ih=>exact .skip e ih|aH t t' b hb _ ih=>exact .aH _ _ _ hb ih
theorem dA.drop{a b:Store}:dA b (a++b):=by
 induction a with
 |nil=>exact .refl _|cons e a ih=>exact .skip e ih
section
variable {B:BM}{f:Nat->Nat->Nat}
theorem Wk.ms'{t t' b o n c:Nat}:Wk (.ms t b o n c) (.ms t' b o n c):=fun M v h=>by cases h;exact .ms _ _ _ _ _
theorem Wk.ahP{t t' b:Nat}:Wk (.bJ t b) (.bJ t' b):=fun M v h=>by cases h;exact .bJ _ _
theorem Wk.aix{e t t' b u c:Nat}{x y:List (List AV)}(h:w9 x y):Wk (.own e t b u c x) (.own e t' b u c y):=fun M v k=>by
 obtain⟨el,h⟩:=h;cases k with
 |own _ _ _ _ _ _ off cap cs h1 h2 h3 h4 h5 h6 h7=>
  rw[el];refine .own _ _ _ _ _ _ off cap cs (fun i hi=>?_) (fun k hk=>h2 k (by rwa [el])) (fun i hi j hj=>?_) (by omega) h5 (by grind) h7
  .rw[← (h i (by omega) hi).get.1];grind
  .have hg:=(h i (by omega) hi).get;exact hg.2 j (by omega) hj _ _ (h3 i (by omega) j (by omega))
mutual
theorem adN:∀(x:AV) (l l':List AV),iq l=iq l'->iq (au B (dI f x)::l)=iq (au B x::l')
 |.cl g a c,l,l',h=>by simp only[dI,au,tf a,tf c];split<;>simp only[iq,h]|.v _,l,l',h=>by simp only[dI,au,iq,h]|.agg _,_,_,_|.any,_,_,_|.aG _,_,_,_|.pc _,_,_,_|.sl ..,_,_,_|.fl ..,_,_,_|.own ..,_,_,_|.ms ..,_,_,_|.lp ..,_,_,_|.bJ ..,_,_,_|.dD ..,_,_,_|.ai _,_,_,_=>by simp only[dI,au,iq]
theorem NI:∀(l:List AV),iq (aI B (jO f l))=iq (aI B l)
 |[]=>rfl|x::l=>adN x _ _ (NI l)
theorem adO:∀(x:AV) (l l':List AV),bR l=bR l'->bR (au B (dI f x)::l)=bR (au B x::l')
 |.cl g a c,l,l',h=>by simp only[dI,au,tf a,tf c];split<;>simp only[bR,h]|.agg xs,l,l',h=>by simp only[dI,au,bR,NI xs,h]|.v _,l,l',h=>by simp only[dI,au,bR,h]|.lp ..,l,l',h=>by simp only[dI,au,bR,h]|.any,_,_,_|.aG _,_,_,_|.pc _,_,_,_|.sl ..,_,_,_|.fl ..,_,_,_|.own ..,_,_,_|.ms ..,_,_,_|.bJ ..,_,_,_|.dD ..,_,_,_|.ai _,_,_,_=>by simp only[dI,au,bR]
theorem tf:∀(l:List AV),bR (aI B (jO f l))=bR (aI B l)
 |[]=>rfl|x::l=>adO x _ _ (tf l)
end
mutual
theorem wF:∀(x:AV),Wk (au B x) (au B (dI f x))
 |.v _|.any|.ai _=>Wk.refl _|.agg xs=>Wk.agg (qx xs)|.aG xs=>Wk.aG (qx xs)|.pc xs=>Wk.Km (qx xs)|.sl nn e rows=>Wk.E9 (EZ rows)|.fl e rows=>Wk.HQ (EZ rows)|.own e _ _ _ _ rows=>Wk.aix (EZ rows)|.ms .. =>Wk.ms'|.lp .. =>Wk.lp|.bJ .. =>Wk.ahP|.dD t x=>Wk.P4 (wF x)|.cl g a c=>by
  have ha:=qx a;have hc:=qx c;simp only[dI,au,tf a,tf c];split
  .exact Wk.refl _
  .exact Wk.clW ha hc
theorem qx:∀(l:List AV),cj (aI B l) (aI B (jO f l))
 |[]=>.nil|x::l=>.cons (wF x) (qx l)
theorem EZ:∀(l:List (List AV)),w9 (dF B l) (dF B (pn f l))
 |[]=>⟨rfl,fun i h=>absurd h (by simp[dF])⟩
 |x::l=>by
  obtain⟨e,k⟩:=EZ l;refine⟨by simp[dF,pn,e],fun i h1 h2=>?_⟩;cases i with
  |zero=>exact qx x|succ i=>simpa[dF,pn]using k i (by simpa[dF]using h1) (by simpa[dF,pn]using h2)
end
theorem KJ:∀(rg:ag),il (bP B rg) (bP B (yG f rg))
 |[]=>.nil|(i,x)::l=>.cons (wF x) (KJ l)
theorem ajo(b:Nat)(x:aE):BW (fE B b x) (fE B b (yF f x)):=by
 cases x with
 |cells l=>exact .cells (qx l)|tail u c=>exact .tail _ _|map es k=>
  refine .map k (by simp_all) ?_
  induction es with
  |nil=>exact .nil|cons e es ih=>exact .cons (wF _) ih
theorem wH:∀(q:Store),dA (aS B (mg f q)) (aS B q)
 |[]=>.nil|(t,b,x)::l=>.aH _ _ _ (ajo b x) (wH l)
theorem H8{n0:Nat}{live:List Nat}:∀(q:Store),dA (aS B (tq n0 live q)) (aS B q)
 |[]=>.nil|(t,b,x)::l=>by
  simp only[tq,aS];cases Nat.blt b n0||live.elem b
  .exact .skip _ (H8 l)
  .have:=dA.refl (aS B [(t,b,x)]);exact dA.app this (H8 l)
theorem Dh{n0:Nat}{rs:List AV}(q:Store):dA (aS B (gc n0 rs q)) (aS B q):=by
 unfold gc;split
 .exact .nil
 .exact H8 _
theorem dA.trans{a b c:Store}(h:dA a b)(k:dA b c):dA a c:=by
 induction k generalizing a with
 |nil=>exact h|skip e _ ih=>exact .skip e (ih h)|aH t t' b hb k ih=>
  cases h with
  |skip e h=>exact .skip _ (ih h)|aH _ t2 _ dC h=>
   refine .aH _ _ _ ?_ (ih h);cases hb with
   |cells h1=>cases dC with
    |cells h2=>exact .cells (h1.trans h2)
   |tail u c=>grind|map k1 e1 w1=>cases dC with
    |map _ e2 w2=>exact .map _ (e1.trans e2) (w1.trans w2)
end
section
variable {f:Nat->Nat->Nat}{B B':BM}
mutual
theorem wD:∀(x:AV),au B x=au B' x->au B (dI f x)=au B' (dI f x)
 |.v _,_|.any,_|.ai _,_=>rfl|.agg xs,h=>by simp only[au,AV.agg.injEq]at h;simp only[dI,au,rY xs h]|.aG xs,h=>by simp only[au,AV.aG.injEq]at h;simp only[dI,au,rY xs h]|.pc xs,h=>by simp only[au,AV.pc.injEq]at h;simp only[dI,au,rY xs h]|.sl nn e rows,h=>by simp only[au,AV.sl.injEq,Yg]at h;simp only[dI,au,EY rows h]|.fl e rows,h=>by simp only[au,AV.fl.injEq,Yg]at h;simp only[dI,au,EY rows h]|.own e t b u c rows,h=>by simp only[au,AV.own.injEq,Yg]at h;simp only[dI,au,EY rows h.2.2.2,h.1,h.2.1,h.2.2.1]|.ms t b o n c,h=>by simp only[au,AV.ms.injEq,Yg,Zn]at h;simp only[dI,au,h]|.lp t b o,h=>by simp only[au,AV.lp.injEq,Yg,Zn]at h;simp only[dI,au,h]|.bJ t b,h=>by simp only[au,AV.bJ.injEq,Yg]at h;simp only[dI,au,h]|.dD t x,h=>by simp only[au,AV.dD.injEq,Yg]at h;simp only[dI,au,wD x h]|.cl g a c,h=>by
  have fa:=rY a;have fc:=rY c;rcases jk (B:=B) g a c with⟨a1,c1,oK,bC,e1⟩|⟨n1,e1⟩<;>rcases jk (B:=B') g a c with⟨a2,c2,lR,bO,e2⟩|⟨n2,e2⟩<;>rw[e1,e2]at h<;>simp only[AV.v.injEq,Value.func.injEq,AV.cl.injEq,reduceCtorEq,Yg]at h
  .have q1:a1=a2:=by simpa using h.1
   have q2:c1=c2:=by simpa using h.2
   simp only[dI,au,tf,oK,bC,lR,bO,q1,q2]
  .simp only[dI,au,fa h.1,fc h.2]
theorem rY:∀(l:List AV),aI B l=aI B' l->aI B (jO f l)=aI B' (jO f l)
 |[],_=>rfl|x::l,h=>by simp only[aI,Z2]at h;simp only[jO,aI,wD x h.1,rY l h.2]
theorem EY:∀(l:List (List AV)),dF B l=dF B' l->dF B (pn f l)=dF B' (pn f l)
 |[],_=>rfl|x::l,h=>by simp only[dF,Z2]at h;simp only[pn,dF,rY x h.1,EY l h.2]
end
theorem KI:∀(l:ag),bP B l=bP B' l->bP B (yG f l)=bP B' (yG f l)
 |[],_=>rfl|(i,x)::l,h=>by simp only[bP,Z2,YX,Yg]at h;simp only[yG,bP,wD x h.1,KI l h.2]
theorem ajn(b:Nat)(x:aE)(h:fE B b x=fE B' b x):fE B b (yF f x)=fE B' b (yF f x):=by
 cases x with
 |cells l=>simp only[fE,aE.cells.injEq]at h;simp only[yF,fE,rY l h]|tail u c=>exact h|map es k=>
  simp only[fE,aE.map.injEq,Zn]at h;simp only[yF,fE,aE.map.injEq,Zn,Yu]
  induction es with
  |nil=>rfl|cons e es ih=>simp only[Zz,Z2,YX,Yg]at h|-;exact⟨by simpa using wD _ h.1,ih h.2⟩
theorem wG:∀(l:Store),aS B l=aS B' l->aS B (mg f l)=aS B' (mg f l)
 |[],_=>rfl|(t,b,x)::l,h=>by simp only[aS,Z2,YX,Yg]at h;simp only[mg,aS,ajn b x h.1.2,wG l h.2,h.1.1]
theorem H7{n0:Nat}{live:List Nat}:∀(l:Store),aS B l=aS B' l->aS B (tq n0 live l)=aS B' (tq n0 live l)
 |[],_=>rfl|(t,b,x)::l,h=>by
  simp only[aS,Z2,YX,Yg]at h;simp only[tq];cases Nat.blt b n0||live.elem b
  .exact H7 l h.2
  .simp only[Y8,aS,h.1.1,h.1.2,H7 l h.2]
theorem Dg{n0:Nat}{rs:List AV}(l:Store)(h:aS B l=aS B' l):aS B (gc n0 rs l)=aS B' (gc n0 rs l):=by
 unfold gc;split
 .rfl
 .exact H7 _ h
theorem vd(rg:ag):∀(ks:List Nat),eP ks (bP B rg)=bP B (eP ks rg)
 |[]=>rfl|k::ks=>by simp only[eP,bP,mZ,vd rg ks]
end
def Gt:XE->Exit
 |.nrm=>.normal|.ret=>.ret|.exit i=>.exit i|.goto l=>.goto l
section
variable {P:Program}[Glob P]{T:XT}{N:Nat}{cfg:Nat->Nat}{call:FuncId->List AV->Store->Nat->XO}{dR:FuncId->List AV->Nat->Option AV}{again:AC->ag->Store->Nat->XS}{jump:AC->Nat->ag->Store->Nat->XS}
def B8(n:Nat)(B:BM)(S:Store)(e:XE)(al:ag)(af:Store)(e1:Exit)(so:ag)(aR:Store):Prop:=
 e1=Gt e/\∃B',Agree n B B'/\so=bP B' al/\aR=aS B' af++S
def sI(P:Program)[Glob P](N:Nat)(s:SC)(n:Nat)(rg:ag)(q:Store)(e:XE)(al:ag)(af:Store)(n':Nat):Prop:=
 n<=n'/\db n' al/\cI n' af/\∀B S,SW P N s (B8 n B S e al af) (bP B rg) (aS B q++S)
def qI(P:Program)[Glob P](N:Nat)(again:AC->ag->Store->Nat->XS):Prop:=
 ∀b rg q n e al af n',again b rg q n=some (e,al,af,n')->db n rg->cI n q->sI P N (.loop b.erase) n rg q e al af n'
def ot(P:Program)[Glob P](N:Nat)(jump:AC->Nat->ag->Store->Nat->XS):Prop:=
 ∀b e al af n',∃J:Nat->Nat->ag->Store->Nat->Prop,(∀l rg q n,jump b l rg q n=some (e,al,af,n')->∃m,J m l rg q n)/\∀m l rg q n,J m l rg q n->db n rg->cI n q->
  ∃r,nC b.erase l=some r/\(((∀l',e≠.goto l')/\sI P N r n rg q e al af n')\/∃l' so aR n1 m',m'<m/\J m' l' so aR n1/\sI P N r n rg q (.goto l') so aR n1)
theorem ot.end(hj:ot P N jump){b:AC}{e:XE}{al:ag}{af:Store}{n':Nat}{l:Nat}{rg:ag}{q:Store}{n:Nat}(h:jump b l rg q n=some (e,al,af,n'))(hG:db n rg)(hS:cI n q):(∀l',e≠.goto l')/\n<=n'/\db n' al/\cI n' af:=by
 obtain⟨J,h1,h2⟩:=hj b e al af n';obtain⟨m,hm⟩:=h1 _ _ _ _ h;clear h
 induction m using Nat.strongRecOn generalizing l rg q n with
 |_ m ih=>
  obtain⟨r,_,⟨k0,k1,k2,k3,_⟩|⟨l',so,aR,n1,m',az,hJ,k1,k2,k3,_⟩⟩:=h2 m l rg q n hm hG hS
  .exact⟨k0,k1,k2,k3⟩
  .obtain⟨g0,g1,g2,g3⟩:=ih m' az k2 k3 hJ;exact⟨g0,ZD k1 g1,g2,g3⟩
theorem MK{st:FuncId->Bool}:∀{l a b:List CI} {s:CI},uU st l=some (a,s,b)->l=a++s::b/\∃f as,s.op= .call f as
 |[],_,_,_,h=>by cases h|c::l,a,b,s,h=>by
  have rest:(match uU st l with
   |some (a,s,b)=>some (c::a,s,b)|none=>none)=some (a,s,b)->c::l=a++s::b/\∃f as,s.op= .call f as:=fun h=>by
   cases h2:uU st l with
   |none=>grind|some p=>obtain⟨e,k⟩:=MK h2;grind
  simp only[uU]at h;grind
theorem UQ(hT:T.OK P)(hc:iY P call)(ho:ku P T)(hp:oh P dR){l1 l2:List CI}{s:CI}{n:Nat}{rg:ag}{q:Store}{al:ag}{af:Store}{n':Nat}(h:FY T cfg call dR l1 s l2 rg q n=some (al,af,n'))(hG:db n rg)(hS:cI n q):
  n<=n'/\db n' al/\cI n' af/\∀(B:BM) (S:Store) (K:ag->Store->Prop),(∀B',Agree n B B'->K (bP B' al) (aS B' af++S))->
   da P cfg [] (bare l1) (fun so aR=>ak P cfg s.d so aR (fun x aK=>da P cfg [] (bare l2) K (bB s.d x so) aK) (fun _ _=>False) s.op) (bP B rg) (aS B q++S):=by
 unfold FY at h;split at h
 .rename_i so aR n1 hx;obtain⟨h1,h2,h3,h4⟩:=wQ hT hp (bare l1) hx hG hS;split at h
  .rename_i x aK n2 hy;obtain⟨k1,k2,k3,k4⟩:=UT hT hc ho (dd:=s.d) hy h2 h3;obtain⟨g1,g2,g3,g4⟩:=wQ hT hp (bare l2) h ((h2.le k1).put k2 s.d) k3;refine⟨by omega,g2,g3,fun B S K hK=>h4 B S _ fun B1 hA=>k4 B1 S _ _ fun B2 mL=>?_⟩;have e:bB s.d (au B2 x) (bP B1 so)=bP B2 (bB s.d x so):=by rw[anr,h2 B1 B2 mL]
   rw[e];exact g4 B2 S K fun B3 Dj=>hK B3 ((hA.trans (mL.le h1)).trans (Dj.le (by omega)))
  grind
 grind
theorem RQ{c:CI}(h:Ev c=true):c.g=none:=by
 unfold Ev at h;split at h
 .assumption
 .cases h
theorem amz(hT:T.OK P)(hc:iY P call)(ho:ku P T)(hp:oh P dR){l:List CI}{n:Nat}{rg:ag}{q:Store}{al:ag}{af:Store}{n':Nat}(h:xD T cfg call dR l rg q n=some (al,af,n'))(hG:db n rg)(hS:cI n q):
  n<=n'/\db n' al/\cI n' af/\∀(B:BM) (S:Store) (Q:Exit->ag->Store->Prop),(∀B',Agree n B B'->Cl (Q .normal) (bP B' al) (aS B' af++S))->SW P N (.de l) Q (bP B rg) (aS B q++S):=by
 unfold xD at h;split at h
 .rename_i l1 s l2 hl;obtain⟨e,h4⟩:=G0 hl;subst e;obtain⟨hb,h⟩:=eW h;simp at hb;have hg:=RQ hb.2;obtain⟨k1,k2,k3,k4⟩:=UQ hT hc ho hp h hG hS;refine⟨k1,k2,k3,fun B S Q hQ=>Mb cfg h4 hb.1 hg ?_⟩;have e:sP P cfg (Q .normal) s l2=fun so aR=>ak P cfg s.d so aR (fun x aK=>da P cfg [] (bare l2) (Cl (Q .normal)) (bB s.d x so) aK) (fun _ _=>False) s.op:=by funext so aR;simp only[sP,fb,cE,hg,wX]
  simp_all
 .split at h
  .rename_i l1 s l2 hl;obtain⟨e,f,as,ei⟩:=MK hl;subst e;obtain⟨hb,h⟩:=eW h;simp at hb;have hg:=RQ hb.1.2;have vQ:qt (l1++s::l2) 0=none:=by have:=hb.2;unfold isNone at this;grind
   obtain⟨k1,k2,k3,k4⟩:=UQ hT hc ho hp h hG hS;refine⟨k1,k2,k3,fun B S Q hQ=>Vs cfg vQ ei hb.1.1 hg ?_⟩;have:=k4 B S (Cl (Q .normal)) hQ;rw[ei]at this;simp only[ak,pA]at this;grind
  .obtain⟨h1,h2,h3,h4⟩:=wQ hT hp (bare l) h hG hS;exact⟨h1,h2,h3,fun B S Q hQ=>Ma cfg (h4 B S _ hQ)⟩
theorem fm(hT:T.OK P)(hc:iY P call)(ho:ku P T)(hp:oh P dR)(ha:qI P N again)(hj:ot P N jump)(n0:Nat):∀(a:AC) {rg:ag} {q:Store} {n:Nat} {e:XE} {al:ag} {af:Store} {n':Nat},
  xC T cfg call dR n0 again jump a rg q n=some (e,al,af,n')->db n rg->cI n q->sI P N a.erase n rg q e al af n'
 |.skip,rg,q,n,e,al,af,n',h,hG,hS=>by cases h;exact⟨ZO _,hG,hS,fun B S=>Gj ⟨rfl,B,.refl _ _,rfl,rfl⟩⟩|.ret,rg,q,n,e,al,af,n',h,hG,hS=>by cases h;exact⟨ZO _,hG,hS,fun B S=>Gi ⟨rfl,B,.refl _ _,rfl,rfl⟩⟩|.exit i,rg,q,n,e,al,af,n',h,hG,hS=>by cases h;exact⟨ZO _,hG,hS,fun B S=>Gf ⟨rfl,B,.refl _ _,rfl,rfl⟩⟩|.goto i,rg,q,n,e,al,af,n',h,hG,hS=>by cases h;exact⟨ZO _,hG,hS,fun B S=>Mc ⟨rfl,B,.refl _ _,rfl,rfl⟩⟩|.label i,rg,q,n,e,al,af,n',h,hG,hS=>by cases h;exact⟨ZO _,hG,hS,fun B S=>Md ⟨rfl,B,.refl _ _,rfl,rfl⟩⟩|.bh l,rg,q,n,e,al,af,n',h,hG,hS=>by
  simp only[xC,y5]at h;split at h
  .rename_i hx;cases h;obtain⟨h1,h2,h3,h4⟩:=FX hT hc ho l hx hG hS;exact⟨h1,h2,h3,fun B S=>Mf cfg (h4 B S _ _ fun B' hA=>⟨rfl,B',hA,rfl,rfl⟩)⟩
  grind
 |.de l,rg,q,n,e,al,af,n',h,hG,hS=>by
  simp only[xC,y5]at h;split at h
  .rename_i hx;cases h;obtain⟨h1,h2,h3,h4⟩:=amz (N:=N) hT hc ho hp hx hG hS;exact⟨h1,h2,h3,fun B S=>h4 B S _ fun B' hA=>Cl.intro ⟨rfl,B',hA,rfl,rfl⟩⟩
  grind
 |.eR aq l,rg,q,n,e,al,af,n',h,hG,hS=>by
  simp only[xC,y5]at h;split at h
  .rename_i hx;cases h;obtain⟨h1,h2,h3,h4⟩:=wQ hT hp l hx hG hS;exact⟨h1,h2,h3,fun B S=>Gh cfg (h4 B S _ fun B' hA=>⟨rfl,B',hA,rfl,rfl⟩)⟩
  .cases h
 |.seq a b,rg,q,n,e,al,af,n',h,hG,hS=>by
  simp only[xC]at h;split at h
  .rename_i so aR n1 hx;obtain⟨h1,h2,h3,h4⟩:=fm hT hc ho hp ha hj n0 a hx hG hS;obtain⟨k1,k2,k3,k4⟩:=fm hT hc ho hp ha hj n0 b h h2 h3;refine⟨ZD h1 k1,k2,k3,fun B S=>zl ((h4 B S).mono ?_)⟩;rintro e1 bK aK ⟨rfl,B',hA,rfl,rfl⟩;refine(k4 B' S).mono ?_;rintro e1 bK aK ⟨rfl,uI,ri,rfl,rfl⟩;exact⟨rfl,uI,hA.trans (ri.le h1),rfl,rfl⟩
  .rename_i hx;obtain⟨h1,h2,h3,h4⟩:=fm hT hc ho hp ha hj n0 a h hG hS;refine⟨h1,h2,h3,fun B S=>zl ((h4 B S).mono ?_)⟩;rintro e1 bK aK ⟨rfl,B',hA,rfl,rfl⟩;cases e with
   |nrm=>exact absurd h (hx _ _ _)|_=>exact⟨rfl,B',hA,rfl,rfl⟩
 |.cond c t e0,rg,q,n,e,al,af,n',h,hG,hS=>by
  simp only[xC]at h;split at h
  .rename_i hb;obtain⟨h1,h2,h3,h4⟩:=fm hT hc ho hp ha hj n0 t h hG hS;exact⟨h1,h2,h3,fun B S=>Ci (b:=true) (by rw[dx,hb];rfl) (fun _=>h4 B S) (fun e=>nomatch e)⟩
  .rename_i hb;obtain⟨h1,h2,h3,h4⟩:=fm hT hc ho hp ha hj n0 e0 h hG hS;exact⟨h1,h2,h3,fun B S=>Ci (b:=false) (by rw[dx,hb];rfl) (fun e=>nomatch e) (fun _=>h4 B S)⟩
  .cases h
 |.block id b,rg,q,n,e,al,af,n',h,hG,hS=>by
  simp only[xC]at h;split at h
  .rename_i i so aR n1 hx;obtain⟨h1,h2,h3,h4⟩:=fm hT hc ho hp ha hj n0 b hx hG hS;cases hi:Nat.beq i id with
   |true=>simp only[hi,Y8]at h;cases h;refine⟨h1,h2,h3,fun B S=>zj ((h4 B S).mono ?_)⟩;rintro e1 bK aK ⟨rfl,B',hA,rfl,rfl⟩;simp only[oy,Gt,Z3 (Z0 hi)];exact⟨rfl,B',hA,rfl,rfl⟩
   |false=>simp only[hi,Yx]at h;cases h;refine⟨h1,h2,h3,fun B S=>zj ((h4 B S).mono ?_)⟩;rintro e1 bK aK ⟨rfl,B',hA,rfl,rfl⟩;simp only[oy,Gt,Z9 (Nat.ne_of_beq_eq_false hi)];exact⟨rfl,B',hA,rfl,rfl⟩
  .rename_i hx;obtain⟨h1,h2,h3,h4⟩:=fm hT hc ho hp ha hj n0 b h hG hS;refine⟨h1,h2,h3,fun B S=>zj ((h4 B S).mono ?_)⟩;rintro e1 bK aK ⟨rfl,B',hA,rfl,rfl⟩;cases e with
   |exit i=>exact absurd h (hx _ _ _ _)|_=>exact⟨rfl,B',hA,rfl,rfl⟩
 |.loop b,rg,q,n,e,al,af,n',h,hG,hS=>ha b rg q n e al af n' h hG hS|.aH ks a,rg,q,n,e,al,af,n',h,hG,hS=>by
  simp only[xC]at h;split at h
  .rename_i so hk;have hk:=C6 hk;subst hk;have hG1:db n (eP ks rg):=fun B B' k=>by rw[<-vd,<-vd,hG B B' k]
   obtain⟨h1,h2,h3,h4⟩:=fm hT hc ho hp ha hj n0 a h (fun B B' k=>KI _ (hG1 B B' k)) (fun B B' k=>Dg _ (wG _ (hS B B' k)));refine⟨h1,h2,h3,fun B S=>SW.eP ks ?_⟩;rw[vd];exact SW.FT (h4 B S) (KJ _) (dA.app ((Dh _).trans (wH _)) (.refl S))
  .cases h
 |.stop a,rg,q,n,e,al,af,n',h,hG,hS=>fm hT hc ho hp ha hj n0 a h hG hS|.scope b,rg,q,n,e,al,af,n',h,hG,hS=>by
  simp only[xC]at h;split at h
  .rename_i l so aR n1 hx;obtain⟨h1,h2,h3,h4⟩:=fm hT hc ho hp ha hj n0 b hx hG hS;obtain⟨g0,g1,g2,g3⟩:=hj.end h h2 h3;refine⟨ZD h1 g1,g2,g3,fun B S=>?_⟩;obtain⟨J,k1,k2⟩:=hj b e al af n';obtain⟨m0,hm0⟩:=k1 _ _ _ _ h;have hQ:∀{B':BM} {n2:Nat} {K:Nat->ag->Store->Prop} {e1:Exit} {bK:ag} {aK:Store},Agree n B B'->n<=n2->B8 n2 B' S e al af e1 bK aK->JS K (B8 n B S e al af) e1 bK aK:=by
    rintro B' n2 K e1 bK aK hA hn ⟨rfl,B2,mL,rfl,rfl⟩;cases e with
    |goto l'=>exact absurd rfl (g0 l')|_=>exact⟨rfl,B2,hA.trans (mL.le hn),rfl,rfl⟩
   refine Mg (fun l m so aR=>∃B1 rX sG nx,Agree n B B1/\n<=nx/\db nx rX/\cI nx sG/\so=bP B1 rX/\aR=aS B1 sG++S/\J m l rX sG nx) ((h4 B S).mono ?_) ?_
   .rintro _ _ _ ⟨rfl,B1,hA,rfl,rfl⟩;exact⟨m0,B1,_,_,n1,hA,h1,h2,h3,rfl,rfl,hm0⟩
   .rintro l m _ _ ⟨B1,rX,sG,nx,hA,hn,Dm,Du,rfl,rfl,hJ⟩;obtain⟨r,q1,⟨q2,q3⟩|⟨l',bK,aK,n2,m',az,xG,q3⟩⟩:=k2 _ _ _ _ _ hJ Dm Du
    .exact⟨r,q1,(q3.2.2.2 B1 S).mono fun e1 eZ IF hq=>hQ hA hn hq⟩
    .refine⟨r,q1,(q3.2.2.2 B1 S).mono ?_⟩;rintro _ _ _ ⟨rfl,B2,mL,rfl,rfl⟩;exact⟨m',az,B2,bK,aK,n2,hA.trans (mL.le hn),ZD hn q3.1,q3.2.1,q3.2.2.1,rfl,rfl,xG⟩
  .rename_i hx;obtain⟨h1,h2,h3,h4⟩:=fm hT hc ho hp ha hj n0 b h hG hS;refine⟨h1,h2,h3,fun B S=>Mg (fun _ _ _ _=>False) ((h4 B S).mono ?_) (fun _ _ _ _ h=>h.elim)⟩;rintro e1 bK aK ⟨rfl,B',hA,rfl,rfl⟩;cases e with
   |goto l=>exact absurd h (hx _ _ _ _)|_=>exact⟨rfl,B',hA,rfl,rfl⟩
def ia(P:Program)[Glob P](N:Nat):Nat->SC->(Exit->ag->Store->Prop)->ag->Store->Prop
 |k+1,.seq x y,Q,rg,q=>SW P N x (qC (ia P N k y Q) Q) rg q|_,s,Q,rg,q=>SW P N s Q rg q
theorem ia.eP(l:List Nat){k:Nat}{s:SC}{Q:Exit->ag->Store->Prop}{rg:ag}{q:Store}(h:ia P N k s Q (eP l rg) q):ia P N k s Q rg q:=by cases k<;>cases s<;>exact SW.eP l h
theorem ia.FT{k:Nat}{s:SC}{Q:Exit->ag->Store->Prop}{rg al:ag}{q af:Store}(h:ia P N k s Q al af)(hr:il rg al)(hs:dA af q):ia P N k s Q rg q:=by cases k<;>cases s<;>exact SW.FT h hr hs
theorem ia.mono:∀{k:Nat} {s:SC} {Q Q':Exit->ag->Store->Prop} {rg:ag} {q:Store},ia P N k s Q rg q->(∀e rg q,Q e rg q->Q' e rg q)->ia P N k s Q' rg q
 |0,s,_,_,_,_,h,hq=>by cases s<;>exact SW.mono h hq|k+1,.seq x y,Q,Q',rg,q,h,hq=>SW.mono h fun e rg q h=>by
  cases e<;>first|exact ia.mono h hq|exact hq _ _ _ h
 |k+1,.skip,_,_,_,_,h,hq|k+1,.bh _,_,_,_,_,h,hq|k+1,.de _,_,_,_,_,h,hq|k+1,.eR _ _,_,_,_,_,h,hq|k+1,.cond _ _ _,_,_,_,_,h,hq|k+1,.block _ _,_,_,_,_,h,hq
 |k+1,.loop _,_,_,_,_,h,hq|k+1,.exit _,_,_,_,_,h,hq|k+1,.ret,_,_,_,_,h,hq|k+1,.scope _,_,_,_,_,h,hq|k+1,.label _,_,_,_,_,h,hq|k+1,.goto _,_,_,_,_,h,hq=>SW.mono h hq
theorem ia.sw:∀{k:Nat} {s:SC} {Q:Exit->ag->Store->Prop} {rg:ag} {q:Store},ia P N k s Q rg q->SW P N s Q rg q
 |0,s,_,_,_,h=>by assumption|k+1,.seq x y,Q,rg,q,h=>zl (SW.mono h fun e rg q h=>by
  cases e<;>first|exact ia.sw h|exact h)
 |k+1,.skip,_,_,_,h|k+1,.bh _,_,_,_,h|k+1,.de _,_,_,_,h|k+1,.eR _ _,_,_,_,h|k+1,.cond _ _ _,_,_,_,h|k+1,.block _ _,_,_,_,h
 |k+1,.loop _,_,_,_,h|k+1,.exit _,_,_,_,h|k+1,.ret,_,_,_,h|k+1,.scope _,_,_,_,h|k+1,.label _,_,_,_,h|k+1,.goto _,_,_,_,h=>h
theorem SW.s0{k:Nat}{s:SC}{Q:Exit->ag->Store->Prop}{rg:ag}{q:Store}(hs:∀x y,s≠.seq x y)(h:SW P N s Q rg q):ia P N k s Q rg q:=by cases k<;>cases s<;>first|exact h|grind
def B6(P:Program)[Glob P](N k:Nat)(s:SC)(n:Nat)(rg:ag)(q:Store)(e:XE)(al:ag)(af:Store)(n':Nat):Prop:=
 n<=n'/\db n' al/\cI n' af/\∀B S,ia P N k s (B8 n B S e al af) (bP B rg) (aS B q++S)
theorem sI.s0{k:Nat}{s:SC}{n:Nat}{rg:ag}{q:Store}{e:XE}{al:ag}{af:Store}{n':Nat}(hs:∀x y,s≠.seq x y)(h:sI P N s n rg q e al af n'):B6 P N k s n rg q e al af n':=
 ⟨h.1,h.2.1,h.2.2.1,fun B S=>(h.2.2.2 B S).s0 hs⟩
theorem FW(hT:T.OK P)(hc:iY P call)(ho:ku P T)(hp:oh P dR)(ha:qI P N again)(hj:ot P N jump)(n0:Nat):∀(a:AC) (k:Nat) {rg:ag} {q:Store} {n:Nat} {e:XE} {al:ag} {af:Store} {n':Nat},
  xC T cfg call dR n0 again jump a rg q n=some (e,al,af,n')->db n rg->cI n q->B6 P N k a.erase n rg q e al af n'
 |.seq a b,0,rg,q,n,e,al,af,n',h,hG,hS=>fm hT hc ho hp ha hj n0 _ h hG hS|.seq a b,k+1,rg,q,n,e,al,af,n',h,hG,hS=>by
  simp only[xC]at h;split at h
  .rename_i so aR n1 hx;obtain⟨h1,h2,h3,h4⟩:=fm hT hc ho hp ha hj n0 a hx hG hS;obtain⟨k1,k2,k3,k4⟩:=FW hT hc ho hp ha hj n0 b k h h2 h3;refine⟨ZD h1 k1,k2,k3,fun B S=>(h4 B S).mono ?_⟩;rintro e1 bK aK ⟨rfl,B',hA,rfl,rfl⟩;refine(k4 B' S).mono ?_;rintro e1 bK aK ⟨rfl,uI,ri,rfl,rfl⟩;exact⟨rfl,uI,hA.trans (ri.le h1),rfl,rfl⟩
  .rename_i hx;obtain⟨h1,h2,h3,h4⟩:=fm hT hc ho hp ha hj n0 a h hG hS;refine⟨h1,h2,h3,fun B S=>(h4 B S).mono ?_⟩;rintro e1 bK aK ⟨rfl,B',hA,rfl,rfl⟩;cases e with
   |nrm=>grind|_=>exact⟨rfl,B',hA,rfl,rfl⟩
 |.aH ks a,k,rg,q,n,e,al,af,n',h,hG,hS=>by
  simp only[xC]at h;split at h
  .rename_i so hk;have hk:=C6 hk;subst hk;have hG1:db n (eP ks rg):=fun B B' k=>by rw[<-vd,<-vd,hG B B' k]
   obtain⟨h1,h2,h3,h4⟩:=FW hT hc ho hp ha hj n0 a k h (fun B B' k=>KI _ (hG1 B B' k)) (fun B B' k=>Dg _ (wG _ (hS B B' k)));refine⟨h1,h2,h3,fun B S=>ia.eP ks ?_⟩;rw[vd];exact ia.FT (h4 B S) (KJ _) (dA.app ((Dh _).trans (wH _)) (.refl S))
  grind
 |.stop a,k,rg,q,n,e,al,af,n',h,hG,hS=>FW hT hc ho hp ha hj n0 a k h hG hS|.skip,k,rg,q,n,e,al,af,n',h,hG,hS=>(fm hT hc ho hp ha hj n0 .skip h hG hS).s0 (by intro _ _ e;cases e)|.bh l,k,rg,q,n,e,al,af,n',h,hG,hS=>(fm hT hc ho hp ha hj n0 (.bh l) h hG hS).s0 (by intro _ _ e;cases e)|.de l,k,rg,q,n,e,al,af,n',h,hG,hS=>(fm hT hc ho hp ha hj n0 (.de l) h hG hS).s0 (by intro _ _ e;cases e)|.eR aq l,k,rg,q,n,e,al,af,n',h,hG,hS=>(fm hT hc ho hp ha hj n0 (.eR aq l) h hG hS).s0 (by intro _ _ e;cases e)|.cond c x y,k,rg,q,n,e,al,af,n',h,hG,hS=>(fm hT hc ho hp ha hj n0 (.cond c x y) h hG hS).s0 (by intro _ _ e;cases e)|.block id b,k,rg,q,n,e,al,af,n',h,hG,hS=>(fm hT hc ho hp ha hj n0 (.block id b) h hG hS).s0 (by intro _ _ e;cases e)|.loop b,k,rg,q,n,e,al,af,n',h,hG,hS=>(fm hT hc ho hp ha hj n0 (.loop b) h hG hS).s0 (by intro _ _ e;cases e)|.exit i,k,rg,q,n,e,al,af,n',h,hG,hS=>(fm hT hc ho hp ha hj n0 (.exit i) h hG hS).s0 (by intro _ _ e;cases e)|.ret,k,rg,q,n,e,al,af,n',h,hG,hS=>(fm hT hc ho hp ha hj n0 .ret h hG hS).s0 (by intro _ _ e;cases e)|.scope b,k,rg,q,n,e,al,af,n',h,hG,hS=>(fm hT hc ho hp ha hj n0 (.scope b) h hG hS).s0 (by intro _ _ e;cases e)|.label i,k,rg,q,n,e,al,af,n',h,hG,hS=>(fm hT hc ho hp ha hj n0 (.label i) h hG hS).s0 (by intro _ _ e;cases e)|.goto i,k,rg,q,n,e,al,af,n',h,hG,hS=>(fm hT hc ho hp ha hj n0 (.goto i) h hG hS).s0 (by intro _ _ e;cases e)
