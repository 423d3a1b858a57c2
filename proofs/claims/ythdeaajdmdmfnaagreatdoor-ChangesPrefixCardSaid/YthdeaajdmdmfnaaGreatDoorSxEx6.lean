/-
  The layer Sx, an executor: a step and a list of operations are sound.
-/
import Derived.Test.YthdeaajdmdmfnaaGreatDoorSxEx4
set_option linter.unusedVariables false
set_option linter.unusedSimpArgs false
set_option linter.unusedSectionVars false
namespace Go.Sx
open Go.RowKit
def Agree(n:Nat)(B B':BM):Prop:=∀ i,i<n→B i=B' i
theorem Agree.refl(n:Nat)(B:BM):Agree n B B:=fun _ _=>rfl
theorem Agree.trans{n:Nat}{A B C:BM}(h:Agree n A B)(k:Agree n B C):Agree n A C:=fun i hi=>(h i hi).trans (k i hi)
theorem Agree.symm{n:Nat}{A B:BM}(h:Agree n A B):Agree n B A:=fun i hi=>(h i hi).symm
theorem Agree.le{n m:Nat}{A B:BM}(h:Agree n A B)(hm:m≤n):Agree m A B:=fun i hi=>h i (by omega)
def gD(n:Nat)(x:AV):Prop:=∀ B B',Agree n B B'→ar B x=ar B' x
def rG(n:Nat)(x:List AV):Prop:=∀ B B',Agree n B B'→aH B x=aH B' x
def cT(n:Nat)(x:ag):Prop:=∀ B B',Agree n B B'→bM B x=bM B' x
def cz(n:Nat)(x:Store):Prop:=∀ B B',Agree n B B'→aR B x=aR B' x
theorem cT.le{n m:Nat}{x:ag}(h:cT n x)(hm:n≤m):cT m x:=fun B B' k=>h B B' (k.le hm)
theorem cz.le{n m:Nat}{x:Store}(h:cz n x)(hm:n≤m):cz m x:=fun B B' k=>h B B' (k.le hm)
theorem cT.put{n:Nat}{x:AV}{rg:ag}(h:cT n rg)(k:gD n x)(d:Option Nat):cT n (bz d x rg):=fun B B' e=>by
 rw[qU,qU,h B B' e,k B B' e]
theorem cT.cons{n t:Nat}{v:Value}{rg:ag}(h:cT n rg):cT n ((t,.v v)::rg):=fun B B' e=>by
 simp only[bM,h B B' e,ar]
theorem gD.v(n:Nat)(v:Value):gD n (.v v):=fun _ _ _=>rfl
section
variable {P:Program}[Glob P]{T:XT}{cfg:Nat→Nat}{call:FuncId→List AV→Store→Nat→XO}
def iG(P:Program)[Glob P](call:FuncId→List AV→Store→Nat→XO):Prop:=
 ∀ f as σ n x σ' n',call f as σ n=some (x,σ',n')→rG n as→cz n σ→n≤n'∧gD n' x∧cz n' σ'∧
  ∀ B S,Spec P f (aH B as) (aR B σ++S) fun r τ=>∃ B',Agree n B B'∧r= .ret (ar B' x)∧τ=aR B' σ'++S
def j1(P:Program)[Glob P](T:XT):Prop:=
 ∀ op ty ti args as d n σ x σ' n',T.ops op ty ti args as d n σ=some (x,σ',n')→rG n as→cz n σ→n≤n'∧gD n' x∧cz n' σ'∧
  ∀ B S,fC P op ty ti args (aH B as) (aR B σ++S) fun r τ=>∃ B',Agree n B B'∧r=ar B' x∧τ=aR B' σ'++S
theorem cT.aL{n:Nat}{rg:ag}(h:cT n rg)(l:List Operand):rG n (aL rg l):=fun B B' k=>by
 rw[← kO,← kO,h B B' k]
theorem cT.ev{n:Nat}{rg:ag}(h:cT n rg)(l:Operand):gD n (ev rg l):=fun B B' k=>by
 rw[← dh,← dh,h B B' k]
def LJ(P:Program)[Glob P](cfg:Nat→Nat)(dd:Option Nat)(n:Nat)(rg:ag)(σ:Store)(op:ax)(x:AV)(σ':Store)(n':Nat):Prop:=
 n≤n'∧gD n' x∧cz n' σ'∧∀ (B:BM) (S:Store) (K:AV→Store→Prop) (E:List PanicEntry→Store→Prop),
  (∀ B',Agree n B B'→K (ar B' x) (aR B' σ'++S))→aj P cfg dd (bM B rg) (aR B σ++S) K E op
theorem wq(hT:T.OK P){dd:Option Nat}{n:Nat}{rg:ag}{σ:Store}{op:ax}{x:AV}{σ':Store}{n':Nat}(h:nB T cfg (dd.getD 0) n rg σ op=some (x,σ',n'))
  (hG:cT n rg) (hS:cz n σ):LJ P cfg dd n rg σ op x σ' n':=by
 unfold nB at h
 split at h
 ·rename_i x1 aP f hx
  cases h
  have key:∀ B B',Agree (n+1) B B'→ar B x=ar B' x∧aR B σ'=aR B' σ':=by
   intro B B' hA
   have h1:=Fb (B:=B) (S:=[]) hT hx
   have h2:=Fb (B:=B') (S:=[]) hT hx
   rw[hG B B' (hA.le (Nat.le_succ _)),hS B B' (hA.le (Nat.le_succ _)),hA n (Yh _),h2]at h1
   simp only[ZY,YW,YP]at h1
   exact⟨h1.1.symm,h1.2.1.symm⟩
  refine⟨Nat.le_succ _,fun B B' k=>(key B B' k).1,fun B B' k=>(key B B' k).2,fun B S K E hK=> ?_⟩
  refine Tp hT fun b u c=> ?_
  let B':BM:=fun i=>if i=n then(b,u,c)else B i
  have hA:Agree n B B':=fun i hi=>by simp only[B'];rw[Z7 (by omega)]
  have h1:=Fb (B:=B') (S:=S) hT hx
  have e:B' n=(b,u,c):=ZV rfl
  rw[e,← hG B B' hA,← hS B B' hA]at h1
  exact⟨_,_,_,h1,hK B' hA⟩
 ·cases h
theorem Ct:∀ {l:List AV} {m:List Value},gS l=some m→l=m.map .v
 |[],_,h=>by cases h;rfl
 | .v x::l,m,h=>by
  simp only[gS,Z9]at h
  obtain⟨m',h1,rfl⟩:=h
  rw[Ct h1];rfl
theorem uo:∀ {l:List AV} {m:List Value},bP l=some m→ct (m.map .v) l
 |[],_,h=>by cases h;exact .nil
 | .v x::l,m,h=>by
  simp only[bP,Z9]at h
  obtain⟨m',h1,rfl⟩:=h
  exact .cons (.refl _) (uo h1)
 | .lp t b o::l,m,h=>by
  simp only[bP,Z9]at h
  obtain⟨m',h1,rfl⟩:=h
  exact .cons .raw (uo h1)
 | .agg xs::l,m,h=>by
  simp only[bP]at h
  split at h
  ·rename_i cs hc
   simp only[Z9]at h
   obtain⟨m',h1,rfl⟩:=h
   refine .cons (fun M v k=> ?_) (uo h1)
   rw[k.ay,Ct hc]
   exact R.oF (RL.exact _)
  ·cases h
theorem w9{B B':BM}:∀ {a:List AV} {m:List Value},bP (aH B a)=some m→bP (aH B' a)=some m→aH B a=aH B' a
 |[],_,_,_=>rfl
 | .v x::l,m,h,h'=>by
  simp only[aH,ar,bP,Z9]at h h' ⊢
  obtain⟨m1,h1,rfl⟩:=h
  obtain⟨m2,h2,e⟩:=h'
  cases e
  rw[w9 h1 h2]
 | .lp t b o::l,m,h,h'=>by
  simp only[aH,ar,bP,Z9]at h h' ⊢
  obtain⟨m1,h1,rfl⟩:=h
  obtain⟨m2,h2,e⟩:=h'
  simp only[Z2,Value.pointer.injEq,ZY,Addr.mk.injEq,Zn]at e
  rw[e.1,w9 h1 (e.2 ▸ h2)]
 | .agg xs::l,m,h,h'=>by
  simp only[aH,ar,bP]at h h' ⊢
  split at h
  ·rename_i cs hc
   split at h'
   ·rename_i bO gb
    simp only[Z9]at h h'
    obtain⟨m1,h1,rfl⟩:=h
    obtain⟨m2,h2,e⟩:=h'
    simp only[Z2,Value.agg.injEq]at e
    have e1:bO=cs:=by simpa using e.1
    rw[Ct hc,Ct gb,e1,w9 h1 (e.2 ▸ h2)]
   ·cases h'
  ·cases h
 | .cl g a c::l,m,h,h'=>by
  simp only[aH]at h h' ⊢
  rcases iY (B:=B) g a c with⟨a1,c1,_,_,e1⟩|⟨_,e1⟩<;>rcases iY (B:=B') g a c with⟨a2,c2,_,_,e2⟩|⟨_,e2⟩<;>rw[e1]at h ⊢<;>rw[e2]at h' ⊢<;>simp only[bP,reduceCtorEq,Z9]at h h'
  obtain⟨m1,h1,rfl⟩:=h
  obtain⟨m2,h2,e⟩:=h'
  cases e
  rw[w9 h1 h2]
 | .any::l,m,h,h'=>by simp[aH,ar,bP]at h
 | .bo _::l,m,h,h'=>by simp[aH,ar,bP]at h
 | .pc _::l,m,h,h'=>by simp[aH,ar,bP]at h
 | .sl .. ::l,m,h,h'=>by simp[aH,ar,bP]at h
 | .fl .. ::l,m,h,h'=>by simp[aH,ar,bP]at h
 | .own .. ::l,m,h,h'=>by simp[aH,ar,bP]at h
 | .ms .. ::l,m,h,h'=>by simp[aH,ar,bP]at h
 | .bD .. ::l,m,h,h'=>by simp[aH,ar,bP]at h
 | .dz .. ::l,m,h,h'=>by simp[aH,ar,bP]at h
 | .ai _::l,m,h,h'=>by simp[aH,ar,bP]at h
theorem gD.parts{n:Nat}{f:FuncId}{a c:List AV}(h:gD n (.cl f a c)):rG n a∧rG n c:=by
 have key:∀ B B',Agree n B B'→aH B a=aH B' a∧aH B c=aH B' c:=fun B B' k=>by
  have e:=h B B' k
  rcases iY (B:=B) f a c with⟨a1,c1,pj,bV,e1⟩|⟨_,e1⟩<;>rcases iY (B:=B') f a c with⟨a2,c2,iP,cG,e2⟩|⟨_,e2⟩<;>rw[e1,e2]at e<;>simp only[AV.v.injEq,Value.func.injEq,AV.cl.injEq,reduceCtorEq,Ys]at e
  ·have q1:a1=a2:=by simpa using e.1
   have q2:c1=c2:=by simpa using e.2
   exact⟨w9 pj (q1 ▸ iP),w9 bV (q2 ▸ cG)⟩
  ·exact e
 exact⟨fun B B' k=>(key B B' k).1,fun B B' k=>(key B B' k).2⟩
theorem tM(B:BM)(a:Array Value):aH B (a.toList.map .v)=a.toList.map .v:=yh _
theorem Tq(hT:T.OK P)(hc:iG P call)(ho:j1 P T){dd:Option Nat}{n:Nat}{rg:ag}{σ:Store}{op:ax}{x:AV}{σ':Store}{n':Nat}
  (h:xS T cfg call (dd.getD 0) n rg σ op=some (x,σ',n')) (hG:cT n rg) (hS:cz n σ):LJ P cfg dd n rg σ op x σ' n':=by
 have zW:∀ {f:FuncId} {as:List AV} {n':Nat},call f as σ n=some (x,σ',n')→rG n as→n≤n'∧gD n' x∧cz n' σ'∧∀ (B:BM) (S:Store) (K:AV→Store→Prop) (E:List PanicEntry→Store→Prop),
   (∀ B',Agree n B B'→K (ar B' x) (aR B' σ'++S))→oT P f (aH B as) (aR B σ++S) K E:=by
  intro f as n' h hL
  obtain⟨h1,h2,h3,h4⟩:=hc _ _ _ _ _ _ _ h hL hS
  exact⟨h1,h2,h3,fun B S K E hK=>⟨_,h4 B S,fun y τ ⟨B',a,b,c⟩=>by cases b;subst c;exact hK B' a,fun ch τ ⟨B',a,b,c⟩=>by cases b⟩⟩
 cases op with
 |call f args=>
  obtain⟨h1,h2,h3,h4⟩:=zW h (hG.aL args)
  exact⟨h1,h2,h3,fun B S K E hK=>by simp only[aj,kO];exact h4 B S K E hK⟩
 |fD fo args=>
  simp only[xS]at h
  split at h
  ·rename_i f a c hf
   obtain⟨hb,h⟩:=eC h
   obtain⟨h1,h2,h3,h4⟩:=zW h (fun B B' k=>by rw[jx,jx,jx,jx,tM,tM,tM,tM,hG.aL args B B' k])
   refine⟨h1,h2,h3,fun B S K E hK=> ?_⟩
   simp only[aj,dh,hf,ar]
   have:=h4 B S K E hK
   rw[jx,jx,tM,tM,← kO]at this
   exact⟨hT.can _ hb,this⟩
  ·rename_i f a c hf
   obtain⟨hb,h⟩:=eC h
   have Ot:=hG.ev fo
   rw[hf]at Ot
   obtain⟨fa,fc⟩:=Ot.parts
   obtain⟨h1,h2,h3,h4⟩:=zW h (fun B B' k=>by rw[jx,jx,jx,jx,fa B B' k,fc B B' k,hG.aL args B B' k])
   refine⟨h1,h2,h3,fun B S K E hK=> ?_⟩
   simp only[aj,dh,hf]
   have:=h4 B S K E hK
   rw[jx,jx,← kO]at this
   rcases iY (B:=B) f a c with⟨a1,c1,pj,bV,e1⟩|⟨_,e1⟩<;>rw[e1]
   ·obtain⟨Q,q1,q2⟩:=this
    exact⟨hT.can _ hb,Q,q1.wk (((uo pj).append (ct.refl _)).append (uo bV)),q2⟩
   ·exact⟨hT.can _ hb,this⟩
  ·cases h
 |exts op ty ti args=>
  obtain⟨h1,h2,h3,h4⟩:=ho _ _ _ _ _ _ _ _ _ _ _ h (hG.aL args) hS
  exact⟨h1,h2,h3,fun B S K E hK=>by simp only[aj,kO];exact(h4 B S).mono fun y τ ⟨B',a,b,c⟩=>by subst b c;exact hK B' a⟩
 |cu op ty ti args=>
  simp only[xS]at h
  split at h
  ·rename_i r hr;cases h;exact wq hT hr hG hS
  ·obtain⟨h1,h2,h3,h4⟩:=ho _ _ _ _ _ _ _ _ _ _ _ h (hG.aL args) hS
   exact⟨h1,h2,h3,fun B S K E hK=>by simp only[aj,kO];exact(h4 B S).mono fun y τ ⟨B',a,b,c⟩=>by subst b c;exact hK B' a⟩
 |_=>exact wq hT h hG hS
theorem E9(hT:T.OK P)(hc:iG P call)(ho:j1 P T):∀ (l:List CI) {n:Nat} {rg:ag} {σ:Store} {ak:ag} {σ':Store} {n':Nat},xL T cfg call l rg σ n=some (ak,σ',n')→cT n rg→cz n σ→
  n≤n'∧cT n' ak∧cz n' σ'∧∀ (B:BM) (S:Store) (K:ag→Store→Prop) (E:List PanicEntry→Store→Prop),
   (∀ B',Agree n B B'→K (bM B' ak) (aR B' σ'++S))→jX P cfg l K E (bM B rg) (aR B σ++S)
 |[],n,rg,σ,ak,σ',n',h,hG,hS=>by cases h;exact⟨ZX _,hG,hS,fun B S K E hK=>hK B (.refl _ _)⟩
 |c::l,n,rg,σ,ak,σ',n',h,hG,hS=>by
  have step:∀ {ej:ag},cT n ej→(match xS T cfg call (c.d.getD 0) n ej σ c.op with
     |some (x,σ',n')=>xL T cfg call l (bz c.d x ej) σ' n'
     |none=>none)=some (ak,σ',n')→
    n≤n'∧cT n' ak∧cz n' σ'∧∀ (B:BM) (S:Store) (K:ag→Store→Prop) (E:List PanicEntry→Store→Prop),
     (∀ B',Agree n B B'→K (bM B' ak) (aR B' σ'++S))→aj P cfg c.d (bM B ej) (aR B σ++S) (fun x σ'=>jX P cfg l K E (bz c.d x (bM B ej)) σ') E c.op:=by
   intro ej hG h
   split at h
   ·rename_i x1 aP n1 hx
    obtain⟨h1,h2,h3,h4⟩:=Tq hT hc ho hx hG hS
    obtain⟨k1,k2,k3,k4⟩:=E9 hT hc ho l h ((hG.le h1).put h2 _) h3
    refine⟨ZI h1 k1,k2,k3,fun B S K E hK=>h4 B S _ E fun B' hA=> ?_⟩
    have:=k4 B' S K E fun tV qq=>hK tV (hA.trans (qq.le h1))
    rw[qU,← hG B B' hA]at this
    exact this
   ·cases h
  simp only[xL]at h
  split at h
  ·rename_i hg
   obtain⟨h1,h2,h3,h4⟩:=step hG h
   refine⟨h1,h2,h3,fun B S K E hK=> ?_⟩
   simp only[jX,hg]
   exact h4 B S K E hK
  ·rename_i t want hg
   split at h
   ·rename_i b hb
    split at h
    ·rename_i e
     have e:b=want:=by simpa using e
     subst e
     obtain⟨h1,h2,h3,h4⟩:=step hG.cons h
     refine⟨h1,h2,h3,fun B S K E hK=> ?_⟩
     simp only[jX,hg,mj,hb,ar]
     exact⟨fun _=>h4 B S K E hK,fun e=>absurd e (by cases b<;>decide)⟩
    ·rename_i e
     have e:b= !want:=by revert e;cases b<;>cases want<;>decide
     subst e
     obtain⟨k1,k2,k3,k4⟩:=E9 hT hc ho l h (hG.cons.put (gD.v _ _) _) hS
     refine⟨k1,k2,k3,fun B S K E hK=> ?_⟩
     simp only[jX,hg,mj,hb,ar]
     have:=k4 B S K E hK
     rw[qU]at this
     exact⟨fun e=>absurd e (by cases want<;>decide),fun _=>this⟩
   ·rename_i hb
    obtain⟨k1,k2,k3,k4⟩:=E9 hT hc ho l h (hG.put (gD.v _ _) _) hS
    refine⟨k1,k2,k3,fun B S K E hK=> ?_⟩
    simp only[jX,hg,mj,hb,ar]
    have:=k4 B S K E hK
    rw[qU]at this
    exact this
   ·cases h
end
section
variable {P:Program}[Glob P]{T:XT}{cfg:Nat→Nat}{dI:FuncId→List AV→Nat→Option AV}{B:BM}{al cf:List Nat}
theorem Qb(x:AV):qK (ar B x)=qK x:=by
 cases x with
 |cl g a c=>rcases iY (B:=B) g a c with⟨a',c',_,_,e⟩|⟨_,e⟩<;>rw[e]<;>rfl
 |_=>rfl
theorem aey(rg:ag)(t s:Nat):oA (bM B rg) t s=oA rg t s:=by simp only[oA,mj,Qb]
theorem aeD(rg:ag)(op:ax):mh al cf (bM B rg) op=mh al cf rg op:=by
 cases op<;>try rfl
 simp only[mh,dh]
 have e:oA (bM B rg)=oA rg:=funext fun t=>funext fun s=>aey rg t s
 rw[e]
 generalize ev rg _=y
 cases y with
 |cl g a c=>rcases iY (B:=B) g a c with⟨a',c',_,_,e⟩|⟨_,e⟩<;>rw[e]
 |_=>rfl
theorem aiu(rg:ag)(op:ax):nw al cf (bM B rg) op=nw al cf rg op:=by
 cases op<;>try rfl
 simp only[nw,dh,mj,Qb]
 generalize ev rg _=y
 cases y with
 |cl g a c=>rcases iY (B:=B) g a c with⟨a',c',_,_,e⟩|⟨_,e⟩<;>rw[e]
 |_=>rfl
def nE(P:Program)[Glob P](dI:FuncId→List AV→Nat→Option AV):Prop:=
 ∀ f as n r,dI f as n=some r→(∀ B,ar B r=r)∧∀ B,Pure P f (aH B as) r
theorem ajN(hT:T.OK P){dd:Option Nat}{b u c:Nat}{rg:ag}{σ:Store}{op:ax}{x:AV}{σ':Store}{f:Bool}{K:AV→Prop}(bC:op.cls=0)(hm:∀ t e ps,op= .dF t e ps→cfg (dd.getD 0)=0∨cfg (dd.getD 0)=3)
  (h:xO T cfg true (dd.getD 0) b u c rg σ op=some (x,σ',f)) (hK:K x):aK P cfg dd rg σ K op:=by
 cases op with
 |dF t e ps=>
  have h0:=hm t e ps rfl
  simp only[xO]at h;simp only[aK]
  split at h
  ·rename_i rows hr
   obtain⟨hb,h⟩:=eC h
   simp only[hr]
   refine⟨ZF hb,?_⟩
   rcases h0 with h0|h0<;>simp only[h0]at h ⊢<;>cases h<;>exact hK
  ·cases h
 |call f args=>cases h
 |fD f args=>cases h
 |cu op ty ti args=>
  simp only[xO]at h;simp only[aK]
  split at h
  ·rename_i as has
   split at h
   ·rename_i r hr
    cases h
    refine⟨_,⟨fun σ=> ?_⟩,hK⟩
    exact fun bx M w0 w ρ hI hR=>(hT.tu _ _ _ _ _ _ hr).1.sp σ bx M w0 w ρ hI ((rq has).sound hR)
   ·cases h
  ·cases h
 |len str x=>
  cases str with
  |true=>
   simp only[xO,fW]at h;simp only[aK]
   split at h
   ·rename_i hx;rw[hx];cases h;exact hK
   ·cases h
  |false=>
   simp only[xO,fW]at h;simp only[aK]
   split at h<;>first|(cases h;done)|(rename_i hx;rw[hx];cases h;exact hK)
 |box t x=>cases bC
 |alloc t z=>cases bC
 |store n x y=>cases bC
 |append t n k z x y=>cases bC
 |exts op ty ti args=>cases bC
 |panic x=>cases bC
 |load a n x=>cases bC
 |_=>
  simp only[aK]
  exact Tp (K:=fun x _=>K x) hT fun b' u' c'=>⟨_,_,_,(by simp only[xO]at h ⊢;exact h),hK⟩
theorem ajP{rl:Bool}{d b u c:Nat}{rg:ag}{σ:Store}{op:ax}{x:AV}{σ':Store}{f:Bool}(bC:op.cls=0)(hm:∀ t e ps,op= .dF t e ps→cfg d=0∨cfg d=3)
  (h:xO T cfg rl d b u c rg σ op=some (x,σ',f)):σ'=σ:=by
 cases op with
 |dF t e ps=>
  have h0:=hm t e ps rfl
  simp only[xO]at h
  split at h
  ·obtain⟨hb,h⟩:=eC h
   rcases h0 with h0|h0<;>simp only[h0]at h<;>cases h<;>rfl
  ·cases h
 |box t x=>cases bC
 |alloc t z=>cases bC
 |store n x y=>cases bC
 |append t n k z x y=>cases bC
 |exts op ty ti args=>cases bC
 |panic x=>cases bC
 |load a n x=>cases bC
 |len s x=>
  cases s<;>simp only[xO,fW]at h<;>split at h<;>cases h<;>rfl
 |field agg off m x=>
  simp only[xO]at h
  split at h
  ·obtain⟨hb,h⟩:=eC h
   cases agg
   ·simp only[YD]at h
    split at h<;>cases h;rfl
   ·cases h;rfl
  ·cases h
 |_=>
  simp only[xO,lQ,zu,rV,fW]at h
  first
  |(cases h;done)
  |(cases h;rfl)
  |(repeat'(split at h))<;>first|(cases h;done)|(cases h;rfl)|(obtain⟨_,h⟩:=fy h;cases h;rfl)|(obtain⟨_,h⟩:=eC h;(repeat'(split at h))<;>first|(cases h;done)|(cases h;rfl))
def Fz(P:Program)[Glob P](cfg:Nat→Nat)(al cf:List Nat)(dd:Option Nat)(n:Nat)(rg:ag)(σ:Store)(op:ax)(x:AV)(σ':Store)(n':Nat):Prop:=
 n≤n'∧gD n' x∧cz n' σ'∧∀ (B:BM) (S:Store) (K:AV→Store→Prop),
  (∀ B',Agree n B B'→K (ar B' x) (aR B' σ'++S))→cy P cfg al cf dd (bM B rg) (aR B σ++S) K op
theorem ajO(hT:T.OK P)(hp:nE P dI){dd:Option Nat}{n:Nat}{rg:ag}{σ:Store}{op:ax}{x:AV}{σ':Store}{n':Nat}(bC:op.cls=0)
  (h:BA T cfg dI (dd.getD 0) n rg σ op=some (x,σ',n')) (hG:cT n rg) (hS:cz n σ):Fz P cfg al cf dd n rg σ op x σ' n':=by
 have gen:∀ {op:ax},op.cls=0→(∀ t e ps,op= .dF t e ps→cfg (dd.getD 0)=0∨cfg (dd.getD 0)=3)→nB T cfg (dd.getD 0) n rg σ op=some (x,σ',n')→Fz P cfg al cf dd n rg σ op x σ' n':=by
  intro op bC hm h
  obtain⟨h1,h2,h3,_⟩:=wq hT h hG hS
  unfold nB at h
  split at h
  ·rename_i x1 aP f hx
   cases h
   have e:=ajP bC hm hx
   subst e
   refine⟨h1,h2,h3,fun B S K hK=> ?_⟩
   unfold cy
   rw[bC]
   exact ajN hT bC hm (Fb (B:=B) (S:=S) hT hx) (hK B (.refl _ _))
  ·cases h
 have FU:∀ {f:FuncId} {as:List AV} {K:AV→Prop} {B:BM},dI f as n=some x→K x→wG P f (aH B as) K:=fun h hK=>⟨_,(hp _ _ _ _ h).2 _,hK⟩
 cases op with
 |dF t e ps=>
  simp only[BA]at h
  split at h
  ·rename_i hc;exact gen bC (fun _ _ _ _=> .inl hc) h
  ·rename_i hc;exact gen bC (fun _ _ _ _=> .inr hc) h
  ·cases h
 |call f args=>
  simp only[BA]at h
  obtain⟨r,h1,h2⟩:=Z9.1 h
  cases h2
  have hf:=(hp _ _ _ _ h1).1
  refine⟨ZX _,fun B B' _=>by rw[hf,hf],hS,fun B S K hK=> ?_⟩
  have:=hK B (.refl _ _)
  rw[hf]at this
  simp only[cy,ax.cls,aK,kO]
  exact FU h1 this
 |fD fo args=>
  simp only[BA]at h
  split at h
  ·rename_i f a c Il
   obtain⟨hb,h⟩:=eC h
   obtain⟨r,h1,h2⟩:=Z9.1 h
   cases h2
   have hf:=(hp _ _ _ _ h1).1
   refine⟨ZX _,fun B B' _=>by rw[hf,hf],hS,fun B S K hK=> ?_⟩
   have:=hK B (.refl _ _)
   rw[hf]at this
   simp only[cy,ax.cls,aK,dh,Il,ar]
   have:=FU (B:=B) (K:=fun x=>K x (aR B σ++S)) h1 this
   rw[jx,jx,tM,tM,← kO]at this
   exact⟨hT.can _ hb,this⟩
  ·rename_i f a c Il
   obtain⟨hb,h⟩:=eC h
   obtain⟨r,h1,h2⟩:=Z9.1 h
   cases h2
   have hf:=(hp _ _ _ _ h1).1
   refine⟨ZX _,fun B B' _=>by rw[hf,hf],hS,fun B S K hK=> ?_⟩
   have:=hK B (.refl _ _)
   rw[hf]at this
   simp only[cy,ax.cls,aK,dh,Il]
   have:=FU (B:=B) (K:=fun x=>K x (aR B σ++S)) h1 this
   rw[jx,jx,← kO]at this
   rcases iY (B:=B) f a c with⟨a1,c1,pj,bV,e1⟩|⟨_,e1⟩<;>rw[e1]
   ·obtain⟨r,q1,q2⟩:=this
    exact⟨hT.can _ hb,r,q1.wk (((uo pj).append (ct.refl _)).append (uo bV)),q2⟩
   ·exact⟨hT.can _ hb,this⟩
  ·cases h
 |_=>exact gen bC (fun _ _ _ e=>nomatch e) h
theorem ajM(hT:T.OK P)(hp:nE P dI){dd:Option Nat}{n:Nat}{rg:ag}{σ:Store}{op:ax}{x:AV}{σ':Store}{n':Nat}
  (h:Bz T cfg dI al cf (dd.getD 0) n rg σ op=some (x,σ',n')) (hG:cT n rg) (hS:cz n σ):Fz P cfg al cf dd n rg σ op x σ' n':=by
 unfold Bz at h
 split at h
 ·rename_i hc;exact ajO hT hp hc h hG hS
 ·rename_i hc
  obtain⟨hb,h⟩:=eC h
  obtain⟨h1,h2,h3,h4⟩:=wq hT h hG hS
  refine⟨h1,h2,h3,fun B S K hK=> ?_⟩
  unfold cy;rw[hc]
  exact⟨by rw[aeD];exact hb,h4 B S K _ hK⟩
 ·rename_i hc
  obtain⟨h1,h2,h3,h4⟩:=wq hT h hG hS
  refine⟨h1,h2,h3,fun B S K hK=> ?_⟩
  unfold cy;rw[hc]
  exact h4 B S K _ hK
 ·rename_i hc
  obtain⟨hb,h⟩:=eC h
  obtain⟨h1,h2,h3,h4⟩:=wq hT h hG hS
  refine⟨h1,h2,h3,fun B S K hK=> ?_⟩
  unfold cy;rw[hc]
  exact⟨by rw[aiu];exact hb,h4 B S K _ hK⟩
 ·rename_i hc
  obtain⟨hb,h⟩:=eC h
  obtain⟨h1,h2,h3,h4⟩:=wq hT h hG hS
  refine⟨h1,h2,h3,fun B S K hK=> ?_⟩
  unfold cy;rw[hc]
  exact⟨hb,h4 B S K _ hK⟩
 ·cases h
theorem wm(hT:T.OK P)(hp:nE P dI):∀ (l:List CD) {n:Nat} {rg:ag} {σ:Store} {ak:ag} {σ':Store} {n':Nat},xM T cfg dI al l rg σ n=some (ak,σ',n')→cT n rg→cz n σ→
  n≤n'∧cT n' ak∧cz n' σ'∧∀ (B:BM) (S:Store) (K:ag→Store→Prop),
   (∀ B',Agree n B B'→K (bM B' ak) (aR B' σ'++S))→cZ P cfg al l K (bM B rg) (aR B σ++S)
 |[],n,rg,σ,ak,σ',n',h,hG,hS=>by cases h;exact⟨ZX _,hG,hS,fun B S K hK=>hK B (.refl _ _)⟩
 |c::l,n,rg,σ,ak,σ',n',h,hG,hS=>by
  have step:(match Bz T cfg dI al c.cf (c.c.d.getD 0) n rg σ c.c.op with
     |some (x,σ',n')=>xM T cfg dI al l (bz c.c.d x rg) σ' n'
     |none=>none)=some (ak,σ',n')→
    n≤n'∧cT n' ak∧cz n' σ'∧∀ (B:BM) (S:Store) (K:ag→Store→Prop),
     (∀ B',Agree n B B'→K (bM B' ak) (aR B' σ'++S))→cy P cfg al c.cf c.c.d (bM B rg) (aR B σ++S) (fun x σ'=>cZ P cfg al l K (bz c.c.d x (bM B rg)) σ') c.c.op:=by
   intro h
   split at h
   ·rename_i x1 aP n1 hx
    obtain⟨h1,h2,h3,h4⟩:=ajM hT hp hx hG hS
    obtain⟨k1,k2,k3,k4⟩:=wm hT hp l h ((hG.le h1).put h2 _) h3
    refine⟨ZI h1 k1,k2,k3,fun B S K hK=>h4 B S _ fun B' hA=> ?_⟩
    have:=k4 B' S K fun tV qq=>hK tV (hA.trans (qq.le h1))
    rw[qU,← hG B B' hA]at this
    exact this
   ·cases h
  simp only[xM]at h
  split at h
  ·rename_i hg
   obtain⟨h1,h2,h3,h4⟩:=step h
   refine⟨h1,h2,h3,fun B S K hK=> ?_⟩
   simp only[cZ,cY,hg]
   exact h4 B S K hK
  ·rename_i t want hg
   split at h
   ·rename_i b hb
    split at h
    ·rename_i e
     have e:b=want:=by simpa using e
     subst e
     obtain⟨h1,h2,h3,h4⟩:=step h
     refine⟨h1,h2,h3,fun B S K hK=> ?_⟩
     simp only[cZ,cY,hg,mj,hb,ar]
     exact⟨fun _=>h4 B S K hK,fun e=>absurd e (by cases b<;>decide)⟩
    ·rename_i e
     have e:b= !want:=by revert e;cases b<;>cases want<;>decide
     subst e
     obtain⟨k1,k2,k3,k4⟩:=wm hT hp l h (hG.put (gD.v _ _) _) hS
     refine⟨k1,k2,k3,fun B S K hK=> ?_⟩
     simp only[cZ,cY,hg,mj,hb,ar]
     have:=k4 B S K hK
     rw[qU]at this
     exact⟨fun e=>absurd e (by cases want<;>decide),fun _=>this⟩
   ·rename_i hb
    obtain⟨k1,k2,k3,k4⟩:=wm hT hp l h (hG.put (gD.v _ _) _) hS
    refine⟨k1,k2,k3,fun B S K hK=> ?_⟩
    simp only[cZ,cY,hg,mj,hb,ar]
    have:=k4 B S K hK
    rw[qU]at this
    exact this
   ·cases h
end
end Go.Sx
