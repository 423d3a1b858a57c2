/-
  The layer Sx, an executor: a step and a list of operations are sound.
-/
import Derived.Test.YtajimcniogfpcaaGreatDoorSxEx4
set_option linter.unusedVariables false
set_option linter.unusedSimpArgs false
set_option linter.unusedSectionVars false
namespace Go.Sx
open Go.RowKit
def Agree(n:Nat)(B B':BM):Prop:=∀ i,i<n→B i=B' i
theorem Agree.refl(n:Nat)(B:BM):Agree n B B:=fun _ _=>rfl
theorem Agree.trans{n:Nat}{A B C:BM}(h:Agree n A B)(k:Agree n B C):Agree n A C:=fun i hi=>(h i hi).trans (k i hi)
theorem Agree.symm{n:Nat}{A B:BM}(h:Agree n A B):Agree n B A:=fun i hi=>(h i hi).symm
theorem Agree.le{n m:Nat}{A B:BM}(h:Agree n A B)(hm:m≤n):Agree m A B:=fun i hi=>h i (by omega)
def iC(n:Nat)(x:AV):Prop:=∀ B B',Agree n B B'→au B x=au B' x
def tI(n:Nat)(x:List AV):Prop:=∀ B B',Agree n B B'→aG B x=aG B' x
def dq(n:Nat)(x:af):Prop:=∀ B B',Agree n B B'→bW B x=bW B' x
def cV(n:Nat)(x:Store):Prop:=∀ B B',Agree n B B'→aV B x=aV B' x
theorem dq.le{n m:Nat}{x:af}(h:dq n x)(hm:n≤m):dq m x:=fun B B' k=>h B B' (k.le hm)
theorem cV.le{n m:Nat}{x:Store}(h:cV n x)(hm:n≤m):cV m x:=fun B B' k=>h B B' (k.le hm)
theorem dq.put{n:Nat}{x:AV}{rg:af}(h:dq n rg)(k:iC n x)(d:Option Nat):dq n (bj d x rg):=fun B B' e=>by
 rw[sL,sL,h B B' e,k B B' e]
theorem dq.cons{n t:Nat}{v:Value}{rg:af}(h:dq n rg):dq n ((t,.v v)::rg):=fun B B' e=>by
 simp only[bW,h B B' e,au]
theorem iC.v(n:Nat)(v:Value):iC n (.v v):=fun _ _ _=>rfl
section
variable {P:Program}[Glob P]{T:XT}{cfg:Nat→Nat}{call:FuncId→List AV→Store→Nat→XO}
def jr(P:Program)[Glob P](call:FuncId→List AV→Store→Nat→XO):Prop:=
 ∀ f as σ n x σ' n',call f as σ n=some (x,σ',n')→tI n as→cV n σ→n≤n'∧iC n' x∧cV n' σ'∧
  ∀ B S,Spec P f (aG B as) (aV B σ++S) fun r τ=>∃ B',Agree n B B'∧r= .ret (au B' x)∧τ=aV B' σ'++S
def kU(P:Program)[Glob P](T:XT):Prop:=
 ∀ op ty ti args as d n σ x σ' n',T.ops op ty ti args as d n σ=some (x,σ',n')→tI n as→cV n σ→n≤n'∧iC n' x∧cV n' σ'∧
  ∀ B S,gb P op ty ti args (aG B as) (aV B σ++S) fun r τ=>∃ B',Agree n B B'∧r=au B' x∧τ=aV B' σ'++S
theorem dq.aE{n:Nat}{rg:af}(h:dq n rg)(l:List Operand):tI n (aE rg l):=fun B B' k=>by
 rw[← lM,← lM,h B B' k]
theorem dq.ev{n:Nat}{rg:af}(h:dq n rg)(l:Operand):iC n (ev rg l):=fun B B' k=>by
 rw[← dG,← dG,h B B' k]
def NI(P:Program)[Glob P](cfg:Nat→Nat)(dd:Option Nat)(n:Nat)(rg:af)(σ:Store)(op:aw)(x:AV)(σ':Store)(n':Nat):Prop:=
 n≤n'∧iC n' x∧cV n' σ'∧∀ (B:BM) (S:Store) (K:AV→Store→Prop) (E:List PanicEntry→Store→Prop),
  (∀ B',Agree n B B'→K (au B' x) (aV B' σ'++S))→al P cfg dd (bW B rg) (aV B σ++S) K E op
theorem yx(hT:T.OK P){dd:Option Nat}{n:Nat}{rg:af}{σ:Store}{op:aw}{x:AV}{σ':Store}{n':Nat}(h:oE T cfg (dd.getD 0) n rg σ op=some (x,σ',n'))
  (hG:dq n rg) (hS:cV n σ):NI P cfg dd n rg σ op x σ' n':=by
 unfold oE at h
 split at h
 ·rename_i x1 aK f hx
  cases h
  have key:∀ B B',Agree (n+1) B B'→au B x=au B' x∧aV B σ'=aV B' σ':=by
   intro B B' hA
   have h1:=Hc (B:=B) (S:=[]) hT hx
   have h2:=Hc (B:=B') (S:=[]) hT hx
   rw[hG B B' (hA.le (Nat.le_succ _)),hS B B' (hA.le (Nat.le_succ _)),hA n (X9 _),h2]at h1
   simp only[Z1,Y3,YX]at h1
   exact⟨h1.1.symm,h1.2.1.symm⟩
  refine⟨Nat.le_succ _,fun B B' k=>(key B B' k).1,fun B B' k=>(key B B' k).2,fun B S K E hK=> ?_⟩
  refine Wf hT fun b u c=> ?_
  let B':BM:=fun i=>if i=n then(b,u,c)else B i
  have hA:Agree n B B':=fun i hi=>by simp only[B'];rw[Z5 (by omega)]
  have h1:=Hc (B:=B') (S:=S) hT hx
  have e:B' n=(b,u,c):=ZW rfl
  rw[e,← hG B B' hA,← hS B B' hA]at h1
  exact⟨_,_,_,h1,hK B' hA⟩
 ·cases h
theorem Ee:∀ {l:List AV} {m:List Value},ik l=some m→l=m.map .v
 |[],_,h=>by cases h;rfl
 | .v x::l,m,h=>by
  simp only[ik,Z7]at h
  obtain⟨m',h1,rfl⟩:=h
  rw[Ee h1];rfl
theorem wN:∀ {l:List AV} {m:List Value},bV l=some m→bC (m.map .v) l
 |[],_,h=>by cases h;exact .nil
 | .v x::l,m,h=>by
  simp only[bV,Z7]at h
  obtain⟨m',h1,rfl⟩:=h
  exact .cons (.refl _) (wN h1)
 | .lp t b o::l,m,h=>by
  simp only[bV,Z7]at h
  obtain⟨m',h1,rfl⟩:=h
  exact .cons .raw (wN h1)
 | .agg xs::l,m,h=>by
  simp only[bV]at h
  split at h
  ·rename_i cs hc
   simp only[Z7]at h
   obtain⟨m',h1,rfl⟩:=h
   refine .cons (fun M v k=> ?_) (wN h1)
   rw[k.ay,Ee hc]
   exact R.su (RL.exact _)
  ·cases h
theorem zg{B B':BM}:∀ {a:List AV} {m:List Value},bV (aG B a)=some m→bV (aG B' a)=some m→aG B a=aG B' a
 |[],_,_,_=>rfl
 | .v x::l,m,h,h'=>by
  simp only[aG,au,bV,Z7]at h h' ⊢
  obtain⟨m1,h1,rfl⟩:=h
  obtain⟨m2,h2,e⟩:=h'
  cases e
  rw[zg h1 h2]
 | .lp t b o::l,m,h,h'=>by
  simp only[aG,au,bV,Z7]at h h' ⊢
  obtain⟨m1,h1,rfl⟩:=h
  obtain⟨m2,h2,e⟩:=h'
  simp only[Z3,Value.pointer.injEq,Z1,Addr.mk.injEq,Zn]at e
  rw[e.1,zg h1 (e.2 ▸ h2)]
 | .agg xs::l,m,h,h'=>by
  simp only[aG,au,bV]at h h' ⊢
  split at h
  ·rename_i cs hc
   split at h'
   ·rename_i bP gU
    simp only[Z7]at h h'
    obtain⟨m1,h1,rfl⟩:=h
    obtain⟨m2,h2,e⟩:=h'
    simp only[Z3,Value.agg.injEq]at e
    have e1:bP=cs:=by simpa using e.1
    rw[Ee hc,Ee gU,e1,zg h1 (e.2 ▸ h2)]
   ·cases h'
  ·cases h
 | .cl g a c::l,m,h,h'=>by
  simp only[aG]at h h' ⊢
  rcases jI (B:=B) g a c with⟨a1,c1,_,_,e1⟩|⟨_,e1⟩<;>rcases jI (B:=B') g a c with⟨a2,c2,_,_,e2⟩|⟨_,e2⟩<;>rw[e1]at h ⊢<;>rw[e2]at h' ⊢<;>simp only[bV,reduceCtorEq,Z7]at h h'
  obtain⟨m1,h1,rfl⟩:=h
  obtain⟨m2,h2,e⟩:=h'
  cases e
  rw[zg h1 h2]
 | .any::l,m,h,h'=>by simp[aG,au,bV]at h
 | .aP _::l,m,h,h'=>by simp[aG,au,bV]at h
 | .pc _::l,m,h,h'=>by simp[aG,au,bV]at h
 | .sl .. ::l,m,h,h'=>by simp[aG,au,bV]at h
 | .fl .. ::l,m,h,h'=>by simp[aG,au,bV]at h
 | .own .. ::l,m,h,h'=>by simp[aG,au,bV]at h
 | .ms .. ::l,m,h,h'=>by simp[aG,au,bV]at h
 | .bH .. ::l,m,h,h'=>by simp[aG,au,bV]at h
 | .dN .. ::l,m,h,h'=>by simp[aG,au,bV]at h
 | .ai _::l,m,h,h'=>by simp[aG,au,bV]at h
theorem iC.parts{n:Nat}{f:FuncId}{a c:List AV}(h:iC n (.cl f a c)):tI n a∧tI n c:=by
 have key:∀ B B',Agree n B B'→aG B a=aG B' a∧aG B c=aG B' c:=fun B B' k=>by
  have e:=h B B' k
  rcases jI (B:=B) f a c with⟨a1,c1,qi,cq,e1⟩|⟨_,e1⟩<;>rcases jI (B:=B') f a c with⟨a2,c2,o0,c8,e2⟩|⟨_,e2⟩<;>rw[e1,e2]at e<;>simp only[AV.v.injEq,Value.func.injEq,AV.cl.injEq,reduceCtorEq,Yf]at e
  ·have q1:a1=a2:=by simpa using e.1
   have q2:c1=c2:=by simpa using e.2
   exact⟨zg qi (q1 ▸ o0),zg cq (q2 ▸ c8)⟩
  ·exact e
 exact⟨fun B B' k=>(key B B' k).1,fun B B' k=>(key B B' k).2⟩
theorem vK(B:BM)(a:Array Value):aG B (a.toList.map .v)=a.toList.map .v:=Ao _
theorem Wg(hT:T.OK P)(hc:jr P call)(ho:kU P T){dd:Option Nat}{n:Nat}{rg:af}{σ:Store}{op:aw}{x:AV}{σ':Store}{n':Nat}
  (h:xS T cfg call (dd.getD 0) n rg σ op=some (x,σ',n')) (hG:dq n rg) (hS:cV n σ):NI P cfg dd n rg σ op x σ' n':=by
 have B7:∀ {f:FuncId} {as:List AV} {n':Nat},call f as σ n=some (x,σ',n')→tI n as→n≤n'∧iC n' x∧cV n' σ'∧∀ (B:BM) (S:Store) (K:AV→Store→Prop) (E:List PanicEntry→Store→Prop),
   (∀ B',Agree n B B'→K (au B' x) (aV B' σ'++S))→nA P f (aG B as) (aV B σ++S) K E:=by
  intro f as n' h hL
  obtain⟨h1,h2,h3,h4⟩:=hc _ _ _ _ _ _ _ h hL hS
  exact⟨h1,h2,h3,fun B S K E hK=>⟨_,h4 B S,fun y τ ⟨B',a,b,c⟩=>by cases b;subst c;exact hK B' a,fun ch τ ⟨B',a,b,c⟩=>by cases b⟩⟩
 cases op with
 |call f args=>
  obtain⟨h1,h2,h3,h4⟩:=B7 h (hG.aE args)
  exact⟨h1,h2,h3,fun B S K E hK=>by simp only[al,lM];exact h4 B S K E hK⟩
 |fR fo args=>
  simp only[xS]at h
  split at h
  ·rename_i f a c hf
   obtain⟨hb,h⟩:=ff h
   obtain⟨h1,h2,h3,h4⟩:=B7 h (fun B B' k=>by rw[j7,j7,j7,j7,vK,vK,vK,vK,hG.aE args B B' k])
   refine⟨h1,h2,h3,fun B S K E hK=> ?_⟩
   simp only[al,dG,hf,au]
   have:=h4 B S K E hK
   rw[j7,j7,vK,vK,← lM]at this
   exact⟨hT.can _ hb,this⟩
  ·rename_i f a c hf
   obtain⟨hb,h⟩:=ff h
   have QA:=hG.ev fo
   rw[hf]at QA
   obtain⟨fa,fc⟩:=QA.parts
   obtain⟨h1,h2,h3,h4⟩:=B7 h (fun B B' k=>by rw[j7,j7,j7,j7,fa B B' k,fc B B' k,hG.aE args B B' k])
   refine⟨h1,h2,h3,fun B S K E hK=> ?_⟩
   simp only[al,dG,hf]
   have:=h4 B S K E hK
   rw[j7,j7,← lM]at this
   rcases jI (B:=B) f a c with⟨a1,c1,qi,cq,e1⟩|⟨_,e1⟩<;>rw[e1]
   ·obtain⟨Q,q1,q2⟩:=this
    exact⟨hT.can _ hb,Q,q1.wk (((wN qi).append (bC.refl _)).append (wN cq)),q2⟩
   ·exact⟨hT.can _ hb,this⟩
  ·cases h
 |exts op ty ti args=>
  obtain⟨h1,h2,h3,h4⟩:=ho _ _ _ _ _ _ _ _ _ _ _ h (hG.aE args) hS
  exact⟨h1,h2,h3,fun B S K E hK=>by simp only[al,lM];exact(h4 B S).mono fun y τ ⟨B',a,b,c⟩=>by subst b c;exact hK B' a⟩
 |cQ op ty ti args=>
  simp only[xS]at h
  split at h
  ·rename_i r hr;cases h;exact yx hT hr hG hS
  ·obtain⟨h1,h2,h3,h4⟩:=ho _ _ _ _ _ _ _ _ _ _ _ h (hG.aE args) hS
   exact⟨h1,h2,h3,fun B S K E hK=>by simp only[al,lM];exact(h4 B S).mono fun y τ ⟨B',a,b,c⟩=>by subst b c;exact hK B' a⟩
 |_=>exact yx hT h hG hS
theorem G9(hT:T.OK P)(hc:jr P call)(ho:kU P T):∀ (l:List CI) {n:Nat} {rg:af} {σ:Store} {ak:af} {σ':Store} {n':Nat},xL T cfg call l rg σ n=some (ak,σ',n')→dq n rg→cV n σ→
  n≤n'∧dq n' ak∧cV n' σ'∧∀ (B:BM) (S:Store) (K:af→Store→Prop) (E:List PanicEntry→Store→Prop),
   (∀ B',Agree n B B'→K (bW B' ak) (aV B' σ'++S))→fu P cfg l K E (bW B rg) (aV B σ++S)
 |[],n,rg,σ,ak,σ',n',h,hG,hS=>by cases h;exact⟨ZM _,hG,hS,fun B S K E hK=>hK B (.refl _ _)⟩
 |c::l,n,rg,σ,ak,σ',n',h,hG,hS=>by
  have step:∀ {ef:af},dq n ef→(match xS T cfg call (c.d.getD 0) n ef σ c.op with
     |some (x,σ',n')=>xL T cfg call l (bj c.d x ef) σ' n'
     |none=>none)=some (ak,σ',n')→
    n≤n'∧dq n' ak∧cV n' σ'∧∀ (B:BM) (S:Store) (K:af→Store→Prop) (E:List PanicEntry→Store→Prop),
     (∀ B',Agree n B B'→K (bW B' ak) (aV B' σ'++S))→al P cfg c.d (bW B ef) (aV B σ++S) (fun x σ'=>fu P cfg l K E (bj c.d x (bW B ef)) σ') E c.op:=by
   intro ef hG h
   split at h
   ·rename_i x1 aK n1 hx
    obtain⟨h1,h2,h3,h4⟩:=Wg hT hc ho hx hG hS
    obtain⟨k1,k2,k3,k4⟩:=G9 hT hc ho l h ((hG.le h1).put h2 _) h3
    refine⟨ZG h1 k1,k2,k3,fun B S K E hK=>h4 B S _ E fun B' hA=> ?_⟩
    have:=k4 B' S K E fun vV rI=>hK vV (hA.trans (rI.le h1))
    rw[sL,← hG B B' hA]at this
    exact this
   ·cases h
  simp only[xL]at h
  split at h
  ·rename_i hg
   obtain⟨h1,h2,h3,h4⟩:=step hG h
   refine⟨h1,h2,h3,fun B S K E hK=> ?_⟩
   simp only[fu,hg]
   exact h4 B S K E hK
  ·rename_i t want hg
   split at h
   ·rename_i b hb
    split at h
    ·rename_i e
     have e:b=want:=by simpa using e
     subst e
     obtain⟨h1,h2,h3,h4⟩:=step hG.cons h
     refine⟨h1,h2,h3,fun B S K E hK=> ?_⟩
     simp only[fu,hg,nh,hb,au]
     exact⟨fun _=>h4 B S K E hK,fun e=>absurd e (by cases b<;>decide)⟩
    ·rename_i e
     have e:b= !want:=by revert e;cases b<;>cases want<;>decide
     subst e
     obtain⟨k1,k2,k3,k4⟩:=G9 hT hc ho l h (hG.cons.put (iC.v _ _) _) hS
     refine⟨k1,k2,k3,fun B S K E hK=> ?_⟩
     simp only[fu,hg,nh,hb,au]
     have:=k4 B S K E hK
     rw[sL]at this
     exact⟨fun e=>absurd e (by cases want<;>decide),fun _=>this⟩
   ·rename_i hb
    obtain⟨k1,k2,k3,k4⟩:=G9 hT hc ho l h (hG.put (iC.v _ _) _) hS
    refine⟨k1,k2,k3,fun B S K E hK=> ?_⟩
    simp only[fu,hg,nh,hb,au]
    have:=k4 B S K E hK
    rw[sL]at this
    exact this
   ·cases h
end
section
variable {P:Program}[Glob P]{T:XT}{cfg:Nat→Nat}{ej:FuncId→List AV→Nat→Option AV}{B:BM}{ah cf:List Nat}
theorem SB(x:AV):si (au B x)=si x:=by
 cases x with
 |cl g a c=>rcases jI (B:=B) g a c with⟨a',c',_,_,e⟩|⟨_,e⟩<;>rw[e]<;>rfl
 |_=>rfl
theorem ahd(rg:af)(t s:Nat):pw (bW B rg) t s=pw rg t s:=by simp only[pw,nh,SB]
theorem ahj(rg:af)(op:aw):kM ah cf (bW B rg) op=kM ah cf rg op:=by
 cases op<;>try rfl
 simp only[kM,dG]
 have e:pw (bW B rg)=pw rg:=funext fun t=>funext fun s=>ahd rg t s
 rw[e]
 generalize ev rg _=y
 cases y with
 |cl g a c=>rcases jI (B:=B) g a c with⟨a',c',_,_,e⟩|⟨_,e⟩<;>rw[e]
 |_=>rfl
theorem akx(rg:af)(op:aw):oy ah cf (bW B rg) op=oy ah cf rg op:=by
 cases op<;>try rfl
 simp only[oy,dG,nh,SB]
 generalize ev rg _=y
 cases y with
 |cl g a c=>rcases jI (B:=B) g a c with⟨a',c',_,_,e⟩|⟨_,e⟩<;>rw[e]
 |_=>rfl
def oF(P:Program)[Glob P](ej:FuncId→List AV→Nat→Option AV):Prop:=
 ∀ f as n r,ej f as n=some r→(∀ B,au B r=r)∧∀ B,Pure P f (aG B as) r
theorem al9(hT:T.OK P){dd:Option Nat}{b u c:Nat}{rg:af}{σ:Store}{op:aw}{x:AV}{σ':Store}{f:Bool}{K:AV→Prop}(bE:op.cls=0)(hm:∀ t e ps,op= .dZ t e ps→cfg (dd.getD 0)=0∨cfg (dd.getD 0)=3)
  (h:xO T cfg true (dd.getD 0) b u c rg σ op=some (x,σ',f)) (hK:K x):aJ P cfg dd rg σ K op:=by
 cases op with
 |dZ t e ps=>
  have h0:=hm t e ps rfl
  simp only[xO]at h;simp only[aJ]
  split at h
  ·rename_i rows hr
   obtain⟨hb,h⟩:=ff h
   simp only[hr]
   refine⟨ZR hb,?_⟩
   rcases h0 with h0|h0<;>simp only[h0]at h ⊢<;>cases h<;>exact hK
  ·cases h
 |call f args=>cases h
 |fR f args=>cases h
 |cQ op ty ti args=>
  simp only[xO]at h;simp only[aJ]
  split at h
  ·rename_i as has
   split at h
   ·rename_i r hr
    cases h
    refine⟨_,⟨fun σ=> ?_⟩,hK⟩
    exact fun bx M w0 w ρ hI hR=>(hT.vv _ _ _ _ _ _ hr).1.sp σ bx M w0 w ρ hI ((tp has).sound hR)
   ·cases h
  ·cases h
 |len str x=>
  cases str with
  |true=>
   simp only[xO,gQ]at h;simp only[aJ]
   split at h
   ·rename_i hx;rw[hx];cases h;exact hK
   ·cases h
  |false=>
   simp only[xO,gQ]at h;simp only[aJ]
   split at h<;>first|(cases h;done)|(rename_i hx;rw[hx];cases h;exact hK)
 |box t x=>cases bE
 |alloc t z=>cases bE
 |store n x y=>cases bE
 |append t n k z x y=>cases bE
 |exts op ty ti args=>cases bE
 |panic x=>cases bE
 |load a n x=>cases bE
 |_=>
  simp only[aJ]
  exact Wf (K:=fun x _=>K x) hT fun b' u' c'=>⟨_,_,_,(by simp only[xO]at h ⊢;exact h),hK⟩
theorem amb{rl:Bool}{d b u c:Nat}{rg:af}{σ:Store}{op:aw}{x:AV}{σ':Store}{f:Bool}(bE:op.cls=0)(hm:∀ t e ps,op= .dZ t e ps→cfg d=0∨cfg d=3)
  (h:xO T cfg rl d b u c rg σ op=some (x,σ',f)):σ'=σ:=by
 cases op with
 |dZ t e ps=>
  have h0:=hm t e ps rfl
  simp only[xO]at h
  split at h
  ·obtain⟨hb,h⟩:=ff h
   rcases h0 with h0|h0<;>simp only[h0]at h<;>cases h<;>rfl
  ·cases h
 |box t x=>cases bE
 |alloc t z=>cases bE
 |store n x y=>cases bE
 |append t n k z x y=>cases bE
 |exts op ty ti args=>cases bE
 |panic x=>cases bE
 |load a n x=>cases bE
 |len s x=>
  cases s<;>simp only[xO,gQ]at h<;>split at h<;>cases h<;>rfl
 |field agg off m x=>
  simp only[xO]at h
  split at h
  ·obtain⟨hb,h⟩:=ff h
   cases agg
   ·simp only[YD]at h
    split at h<;>cases h;rfl
   ·cases h;rfl
  ·cases h
 |_=>
  simp only[xO,mK,BC,uh,gQ]at h
  first
  |(cases h;done)
  |(cases h;rfl)
  |(repeat'(split at h))<;>first|(cases h;done)|(cases h;rfl)|(obtain⟨_,h⟩:=gy h;cases h;rfl)|(obtain⟨_,h⟩:=ff h;(repeat'(split at h))<;>first|(cases h;done)|(cases h;rfl))
def H7(P:Program)[Glob P](cfg:Nat→Nat)(ah cf:List Nat)(dd:Option Nat)(n:Nat)(rg:af)(σ:Store)(op:aw)(x:AV)(σ':Store)(n':Nat):Prop:=
 n≤n'∧iC n' x∧cV n' σ'∧∀ (B:BM) (S:Store) (K:AV→Store→Prop),
  (∀ B',Agree n B B'→K (au B' x) (aV B' σ'++S))→bQ P cfg ah cf dd (bW B rg) (aV B σ++S) K op
theorem ama(hT:T.OK P)(hp:oF P ej){dd:Option Nat}{n:Nat}{rg:af}{σ:Store}{op:aw}{x:AV}{σ':Store}{n':Nat}(bE:op.cls=0)
  (h:DA T cfg ej (dd.getD 0) n rg σ op=some (x,σ',n')) (hG:dq n rg) (hS:cV n σ):H7 P cfg ah cf dd n rg σ op x σ' n':=by
 have gen:∀ {op:aw},op.cls=0→(∀ t e ps,op= .dZ t e ps→cfg (dd.getD 0)=0∨cfg (dd.getD 0)=3)→oE T cfg (dd.getD 0) n rg σ op=some (x,σ',n')→H7 P cfg ah cf dd n rg σ op x σ' n':=by
  intro op bE hm h
  obtain⟨h1,h2,h3,_⟩:=yx hT h hG hS
  unfold oE at h
  split at h
  ·rename_i x1 aK f hx
   cases h
   have e:=amb bE hm hx
   subst e
   refine⟨h1,h2,h3,fun B S K hK=> ?_⟩
   unfold bQ
   rw[bE]
   exact al9 hT bE hm (Hc (B:=B) (S:=S) hT hx) (hK B (.refl _ _))
  ·cases h
 have It:∀ {f:FuncId} {as:List AV} {K:AV→Prop} {B:BM},ej f as n=some x→K x→wh P f (aG B as) K:=fun h hK=>⟨_,(hp _ _ _ _ h).2 _,hK⟩
 cases op with
 |dZ t e ps=>
  simp only[DA]at h
  split at h
  ·rename_i hc;exact gen bE (fun _ _ _ _=> .inl hc) h
  ·rename_i hc;exact gen bE (fun _ _ _ _=> .inr hc) h
  ·cases h
 |call f args=>
  simp only[DA]at h
  obtain⟨r,h1,h2⟩:=Z7.1 h
  cases h2
  have hf:=(hp _ _ _ _ h1).1
  refine⟨ZM _,fun B B' _=>by rw[hf,hf],hS,fun B S K hK=> ?_⟩
  have:=hK B (.refl _ _)
  rw[hf]at this
  simp only[bQ,aw.cls,aJ,lM]
  exact It h1 this
 |fR fo args=>
  simp only[DA]at h
  split at h
  ·rename_i f a c Ke
   obtain⟨hb,h⟩:=ff h
   obtain⟨r,h1,h2⟩:=Z7.1 h
   cases h2
   have hf:=(hp _ _ _ _ h1).1
   refine⟨ZM _,fun B B' _=>by rw[hf,hf],hS,fun B S K hK=> ?_⟩
   have:=hK B (.refl _ _)
   rw[hf]at this
   simp only[bQ,aw.cls,aJ,dG,Ke,au]
   have:=It (B:=B) (K:=fun x=>K x (aV B σ++S)) h1 this
   rw[j7,j7,vK,vK,← lM]at this
   exact⟨hT.can _ hb,this⟩
  ·rename_i f a c Ke
   obtain⟨hb,h⟩:=ff h
   obtain⟨r,h1,h2⟩:=Z7.1 h
   cases h2
   have hf:=(hp _ _ _ _ h1).1
   refine⟨ZM _,fun B B' _=>by rw[hf,hf],hS,fun B S K hK=> ?_⟩
   have:=hK B (.refl _ _)
   rw[hf]at this
   simp only[bQ,aw.cls,aJ,dG,Ke]
   have:=It (B:=B) (K:=fun x=>K x (aV B σ++S)) h1 this
   rw[j7,j7,← lM]at this
   rcases jI (B:=B) f a c with⟨a1,c1,qi,cq,e1⟩|⟨_,e1⟩<;>rw[e1]
   ·obtain⟨r,q1,q2⟩:=this
    exact⟨hT.can _ hb,r,q1.wk (((wN qi).append (bC.refl _)).append (wN cq)),q2⟩
   ·exact⟨hT.can _ hb,this⟩
  ·cases h
 |_=>exact gen bE (fun _ _ _ e=>nomatch e) h
theorem al8(hT:T.OK P)(hp:oF P ej){dd:Option Nat}{n:Nat}{rg:af}{σ:Store}{op:aw}{x:AV}{σ':Store}{n':Nat}
  (h:Dz T cfg ej ah cf (dd.getD 0) n rg σ op=some (x,σ',n')) (hG:dq n rg) (hS:cV n σ):H7 P cfg ah cf dd n rg σ op x σ' n':=by
 unfold Dz at h
 split at h
 ·rename_i hc;exact ama hT hp hc h hG hS
 ·rename_i hc
  obtain⟨hb,h⟩:=ff h
  obtain⟨h1,h2,h3,h4⟩:=yx hT h hG hS
  refine⟨h1,h2,h3,fun B S K hK=> ?_⟩
  unfold bQ;rw[hc]
  exact⟨by rw[ahj];exact hb,h4 B S K _ hK⟩
 ·rename_i hc
  obtain⟨h1,h2,h3,h4⟩:=yx hT h hG hS
  refine⟨h1,h2,h3,fun B S K hK=> ?_⟩
  unfold bQ;rw[hc]
  exact h4 B S K _ hK
 ·rename_i hc
  obtain⟨hb,h⟩:=ff h
  obtain⟨h1,h2,h3,h4⟩:=yx hT h hG hS
  refine⟨h1,h2,h3,fun B S K hK=> ?_⟩
  unfold bQ;rw[hc]
  exact⟨by rw[akx];exact hb,h4 B S K _ hK⟩
 ·rename_i hc
  obtain⟨hb,h⟩:=ff h
  obtain⟨h1,h2,h3,h4⟩:=yx hT h hG hS
  refine⟨h1,h2,h3,fun B S K hK=> ?_⟩
  unfold bQ;rw[hc]
  exact⟨hb,h4 B S K _ hK⟩
 ·cases h
theorem yw(hT:T.OK P)(hp:oF P ej):∀ (l:List CD) {n:Nat} {rg:af} {σ:Store} {ak:af} {σ':Store} {n':Nat},xM T cfg ej ah l rg σ n=some (ak,σ',n')→dq n rg→cV n σ→
  n≤n'∧dq n' ak∧cV n' σ'∧∀ (B:BM) (S:Store) (K:af→Store→Prop),
   (∀ B',Agree n B B'→K (bW B' ak) (aV B' σ'++S))→bG P cfg ah l K (bW B rg) (aV B σ++S)
 |[],n,rg,σ,ak,σ',n',h,hG,hS=>by cases h;exact⟨ZM _,hG,hS,fun B S K hK=>hK B (.refl _ _)⟩
 |c::l,n,rg,σ,ak,σ',n',h,hG,hS=>by
  have step:(match Dz T cfg ej ah c.cf (c.c.d.getD 0) n rg σ c.c.op with
     |some (x,σ',n')=>xM T cfg ej ah l (bj c.c.d x rg) σ' n'
     |none=>none)=some (ak,σ',n')→
    n≤n'∧dq n' ak∧cV n' σ'∧∀ (B:BM) (S:Store) (K:af→Store→Prop),
     (∀ B',Agree n B B'→K (bW B' ak) (aV B' σ'++S))→bQ P cfg ah c.cf c.c.d (bW B rg) (aV B σ++S) (fun x σ'=>bG P cfg ah l K (bj c.c.d x (bW B rg)) σ') c.c.op:=by
   intro h
   split at h
   ·rename_i x1 aK n1 hx
    obtain⟨h1,h2,h3,h4⟩:=al8 hT hp hx hG hS
    obtain⟨k1,k2,k3,k4⟩:=yw hT hp l h ((hG.le h1).put h2 _) h3
    refine⟨ZG h1 k1,k2,k3,fun B S K hK=>h4 B S _ fun B' hA=> ?_⟩
    have:=k4 B' S K fun vV rI=>hK vV (hA.trans (rI.le h1))
    rw[sL,← hG B B' hA]at this
    exact this
   ·cases h
  simp only[xM]at h
  split at h
  ·rename_i hg
   obtain⟨h1,h2,h3,h4⟩:=step h
   refine⟨h1,h2,h3,fun B S K hK=> ?_⟩
   simp only[bG,cm,hg]
   exact h4 B S K hK
  ·rename_i t want hg
   split at h
   ·rename_i b hb
    split at h
    ·rename_i e
     have e:b=want:=by simpa using e
     subst e
     obtain⟨h1,h2,h3,h4⟩:=step h
     refine⟨h1,h2,h3,fun B S K hK=> ?_⟩
     simp only[bG,cm,hg,nh,hb,au]
     exact⟨fun _=>h4 B S K hK,fun e=>absurd e (by cases b<;>decide)⟩
    ·rename_i e
     have e:b= !want:=by revert e;cases b<;>cases want<;>decide
     subst e
     obtain⟨k1,k2,k3,k4⟩:=yw hT hp l h (hG.put (iC.v _ _) _) hS
     refine⟨k1,k2,k3,fun B S K hK=> ?_⟩
     simp only[bG,cm,hg,nh,hb,au]
     have:=k4 B S K hK
     rw[sL]at this
     exact⟨fun e=>absurd e (by cases want<;>decide),fun _=>this⟩
   ·rename_i hb
    obtain⟨k1,k2,k3,k4⟩:=yw hT hp l h (hG.put (iC.v _ _) _) hS
    refine⟨k1,k2,k3,fun B S K hK=> ?_⟩
    simp only[bG,cm,hg,nh,hb,au]
    have:=k4 B S K hK
    rw[sL]at this
    exact this
   ·cases h
end
end Go.Sx
