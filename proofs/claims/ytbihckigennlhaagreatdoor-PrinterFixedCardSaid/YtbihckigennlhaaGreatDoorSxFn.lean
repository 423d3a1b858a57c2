/-
  The layer Sx, tenth part: functions.
-/
import Derived.Test.YtbihckigennlhaaGreatDoorSxCtl
set_option linter.unusedVariables false
set_option linter.unusedSimpArgs false
set_option linter.unusedSectionVars false
namespace Go.Sx
open Go.RowKit
inductive RC where
 |tmp (t:Nat)
 |cell (t:Nat) (agg:Bool) (n:Nat)
structure FC where
 N:Nat
 code:SC
 res:List RC
def vZ(P:Program)[Glob P]:ResultVar→Option RC
 | .tmp t=>some (.tmp t)
 | .cell t ty=>(fR P ty).map fun(g,n)=> .cell t g n
def u7(tmps:Array Value):ResultVar→Sem Value
 | .tmp t=>pure (tmps.getD t undef)
 | .cell b t=>do loadVar t (← asAddr (tmps.getD b undef))
theorem LW(fn:Func)(tmps:Array Value):results fn tmps=(do let vs ← fn.results.mapM (u7 tmps);pure (if h:vs.size=1 then vs[0]else .tuple vs)):=by
 unfold results
 have:(fun(x:ResultVar)=>match x with
  | .tmp t=>(pure (tmps.getD t undef):Sem Value)
  | .cell a t=>do loadVar t (← asAddr (tmps.getD a undef)))=u7 tmps:=by
  funext x;cases x<;>rfl
 rw[← this]
 congr 2
def o9(P:Program)[Glob P]:List ResultVar→Option (List RC)
 |[]=>some []
 | .tmp t::l=>(o9 P l).map (.tmp t::·)
 | .cell t ty::l=>match fR P ty with
  |some (g,n)=>(o9 P l).map (.cell t g n::·)
  |none=>none
def bZ(P:Program)[Glob P](fn:Func):Option FC:=
 match fn.body with
 |some c=>match bV P fn.ntmps c,o9 P fn.results.toList with
  |some s,some r=>some ⟨fn.ntmps,s,r⟩
  |_,_=>none
 |none=>none
def sn(rg:ae)(σ:Store):RC→Option AV
 | .tmp t=>some (lk rg t)
 | .cell t g n=>match lk rg t with
  | .lp tg b o=>match aK σ tg with
   |some (b',.cells l)=>if b=b' then(if g then(if o+n≤l.length then some (.agg ((l.drop o).take n))else none)else l[o]?)else none
   |_=>none
  |_=>none
def qh(rg:ae)(σ:Store):List RC→Option (List AV)
 |[]=>some []
 |r::l=>match sn rg σ r with
  |some x=>(qh rg σ l).map (x::·)
  |none=>none
def u4(rg:ae)(σ:Store)(l:List RC):Option AV:=
 match qh rg σ l with
 |some [x]=>some x
 |some xs=>some (.aL xs)
 |none=>none
def Sub(σ σ':Store):Prop:=(σ.map (·.2)).Sublist (σ'.map (·.2))
theorem Sub.refl(σ:Store):Sub σ σ:=List.Sublist.refl _
theorem Sub.trans{a b c:Store}(h:Sub a b)(k:Sub b c):Sub a c:=List.Sublist.trans h k
theorem Sub.cons{σ σ':Store}{t b:Nat}{x:cp}(h:Sub σ σ'):Sub σ ((t,b,x)::σ'):=List.Sublist.cons _ h
theorem Sub.same{σ σ':Store}{t t' b:Nat}{x:cp}(h:Sub σ σ'):Sub ((t,b,x)::σ) ((t',b,x)::σ'):=List.Sublist.cons_cons _ h
theorem Inv.sub{P:Program}[Glob P]{M:Mem}{w0:Base}{w:World}{σ σ':Store}(hI:Inv P M w0 σ' w)(h:Sub σ σ'):Inv P M w0 σ w:=by
 refine⟨hI.os,hI.tape,hI.output,hI.size,hI.old,hI.dr,fun e he=> ?_,?_,hI.gl,hI.gw,hI.bm⟩
 ·have hm:e.2∈σ'.map (·.2):=h.subset (YW he)
  obtain⟨e',ud,h2⟩:=YZ.1 hm
  have:=hI.st e' ud
  rw[← h2]
  exact this
 ·have h2:=h.map (·.1)
  simp only[Yv]at h2
  exact hI.nd.sublist h2
def Wk(x y:AV):Prop:=∀ M v,R M x v→R M y v
theorem Wk.refl(x:AV):Wk x x:=fun _ _ h=>h
theorem Wk.own{ez t b u c:Nat}{rows:List (List AV)}(nn:Bool):Wk (.own ez t b u c rows) (.sl nn ez rows):=fun _ _ h=>h.aba nn
theorem Wk.sl{ez:Nat}{rows:List (List AV)}:Wk (.sl true ez rows) (.sl false ez rows):=fun _ _ h=>h.asa
theorem Wk.nil{ez:Nat}:Wk (.v (.slice none 0 0)) (.sl false ez []):=fun _ _ h=>by rw[h.ax];exact .nil _ ez none (fun h=>nomatch h)
theorem Wk.lp{t t' b o:Nat}:Wk (.lp t b o) (.lp t' b o):=fun _ _ h=>by rw[h.lX];exact .lp _ _ _
theorem Wk.raw{t' b o:Nat}:Wk (.v (.pointer (some ⟨b,o,none⟩))) (.lp t' b o):=fun _ _ h=>by rw[h.ax];exact .lp _ _ _
theorem Wk.any(x:AV):Wk x .any:=fun _ v _=> .any v
theorem Wk.lY{x y:AV}(h:x=y):Wk x y:=h ▸ Wk.refl x
inductive bD:List AV→List AV→Prop
 |nil:bD [] []
 |cons {x y:AV} {xs ys:List AV} (h:Wk x y) (t:bD xs ys):bD (x::xs) (y::ys)
theorem bD.refl:∀ (l:List AV),bD l l
 |[]=> .nil
 |x::l=> .cons (Wk.refl x) (bD.refl l)
theorem bD.sound{M:Mem}{xs ys:List AV}(h:bD xs ys):∀ {vs:List Value},RL M xs vs→RL M ys vs:=by
 induction h with
 |nil=>exact fun h=>h
 |cons hx _ ih=>
  intro vs h
  obtain⟨v,gL,rfl,h1,h2⟩:=h.cE
  exact RL.cons (hx _ _ h1) (ih h2)
theorem bD.append{a b c d:List AV}(h:bD a b)(k:bD c d):bD (a++c) (b++d):=by
 induction h with
 |nil=>exact k
 |cons hx _ ih=>exact .cons hx ih
theorem Wk.agg{xs ys:List AV}(h:bD xs ys):Wk (.agg xs) (.agg ys):=fun _ _ k=>by
 obtain⟨cs,rfl,hl⟩:=k.uO
 exact R.uL (h.sound hl)
theorem Wk.aL{xs ys:List AV}(h:bD xs ys):Wk (.aL xs) (.aL ys):=fun _ _ k=>by
 obtain⟨cs,rfl,hl⟩:=k.Ag
 exact R.D0 (h.sound hl)
theorem Wk.trans{x y z:AV}(h:Wk x y)(k:Wk y z):Wk x z:=fun M v hx=>k M v (h M v hx)
theorem Spec.wk{P:Program}[Glob P]{f:FuncId}{as bs:List AV}{σ:Store}{Q:cU→Store→Prop}(h:Spec P f bs σ Q)(hw:bD as bs):Spec P f as σ Q:=
 fun M w0 w cs hI hl=>h M w0 w cs hI (hw.sound hl)
theorem Pure.wk{P:Program}[Glob P]{f:FuncId}{as bs:List AV}{r:AV}(h:Pure P f bs r)(hw:bD as bs):Pure P f as r:=⟨fun σ=>(h.sp σ).wk hw⟩
theorem Spec.mono{P:Program}[Glob P]{f:FuncId}{as:List AV}{σ:Store}{Q Q':cU→Store→Prop}(h:Spec P f as σ Q)(hq:∀ r σ',Q r σ'→Q' r σ'):Spec P f as σ Q':=
 fun M w0 w cs hI hl=>(h M w0 w cs hI hl).mono fun _ _ ⟨M',r,σ',a,b,c,d⟩=>⟨M',r,σ',a,b,c,hq _ _ d⟩
def iM:Nat→List AV→ae
 |_,[]=>[]
 |k,x::l=>(k,x)::iM (k+1) l
def j0(res:List RC)(Q:cU→Store→Prop):Exit→ae→Store→Prop
 | .normal,rg,σ| .ret,rg,σ=>∃ x,u4 rg σ res=some x∧Q (.ret x) σ
 | .panic ch,_,σ=>Q (.cC ch) σ
 |_,_,_=>False
section
variable {P:Program}[Glob P]{M:Mem}{w0:Base}{w:World}{σ:Store}{rg:ae}{a:Act}
theorem BU:∀ (as:List AV) (vs:List Value) (k:Nat) (tmps:Array Value),RL M as vs→(∀ i v,vs[i]? =some v→tmps[k+i]? =some v)→∀ i,R M (lk (iM k as) i) (tmps.getD i undef)
 |[],vs,k,tmps,_,_,i=> .any _
 |x::as,vs,k,tmps,h,ht,i=>by
  obtain⟨v,gL,rfl,hx,eE⟩:=h.cE
  simp only[iM,lk]
  cases hb:Nat.beq k i with
  |true=>
   have e:=ZM hb
   subst e
   have:=ht 0 v rfl
   simp only[YT]at this
   rw[Z4,this]
   exact hx
  |false=>exact BU as gL (k+1) tmps eE (fun j u hu=>by have:=ht (j+1) u (by simpa using hu);rwa [show k+1+j=k+(j+1)from by omega]) i
theorem ab0{r:RC}{rv:ResultVar}{x:AV}(hc:vZ P rv=some r)(hx:sn rg σ r=some x)(hI:Inv P M w0 σ w)(hR:bB M rg a):
  ∃ v,(u7 a.tmps rv).run P w= .ok v w∧R M x v:=by
 cases rv with
 |tmp t=>
  simp only[vZ,Z6]at hc
  subst hc
  simp only[sn,Z6]at hx
  subst hx
  exact⟨_,rfl,hR t⟩
 |cell t ty=>
  simp only[vZ]at hc
  obtain⟨⟨g,n⟩,hg,rfl⟩:=ZS.1 hc
  simp only[sn]at hx
  have ht:=hR t
  split at hx
  ·rename_i tg b o he
   rw[he]at ht
   have hv:=ht.lX
   split at hx
   ·rename_i b' l hb
    split at hx
    case isFalse=>cases hx
    rename_i UI
    subst UI
    have hcell:∀ i y,(l.drop o)[i]? =some y→∃ v,w.cell? ⟨b,o+i,none⟩=some v∧R M y v:=fun i y e=>by
     rw[Yj]at e
     exact hI.cell hb e
    obtain⟨v,y,hr,CM,rfl⟩:=AD (P:=P) (σ:=σ) (K:=fun y _=>y=x) hg (l.drop o) hcell (by
     cases g with
     |true=>
      simp only[Ze]at hx ⊢
      split at hx
      ·rename_i aE;simp only[Z6]at hx;exact⟨by simp;omega,hx⟩
      ·cases hx
     |false=>
      simp only[ZT,ZA]at hx ⊢
      rw[Yj,YT,hx])
    refine⟨v,?_,CM⟩
    simp only[u7,hv]
    simpa[Instr.loadAt,Instr.sureAddr,asAddr]using hr
   ·cases hx
  ·cases hx
theorem LX:∀ (xR:List ResultVar) (rs:List RC) (xs:List AV),o9 P xR=some rs→qh rg σ rs=some xs→Inv P M w0 σ w→bB M rg a→
  ∃ vs,(xR.mapM (u7 a.tmps):Sem (List Value)).run P w= .ok vs w∧RL M xs vs
 |[],rs,xs,hc,hx,_,_=>by
  simp only[o9,Z6]at hc
  subst hc
  simp only[qh,Z6]at hx
  subst hx
  exact⟨[],rfl,RL.nil⟩
 |rv::xR,rs,xs,hc,hx,hI,hR=>by
  obtain⟨r,qi,rfl,hr,VS⟩:∃ r qi,rs=r::qi∧vZ P rv=some r∧o9 P xR=some qi:=by
   cases rv with
   |tmp t=>
    simp only[o9]at hc
    obtain⟨qi,h1,rfl⟩:=ZS.1 hc
    exact⟨_,qi,rfl,rfl,h1⟩
   |cell t ty=>
    simp only[o9]at hc
    split at hc
    ·rename_i g n hg
     obtain⟨qi,h1,rfl⟩:=ZS.1 hc
     exact⟨_,qi,rfl,by simp[vZ,hg],h1⟩
    ·cases hc
  simp only[qh]at hx
  split at hx
  ·rename_i x rP
   obtain⟨xs',h2,rfl⟩:=ZS.1 hx
   obtain⟨v,hv,CM⟩:=ab0 hr rP hI hR
   obtain⟨vs,na,Uw⟩:=LX xR qi xs' VS h2 hI hR
   refine⟨v::vs,?_,RL.cons CM Uw⟩
   rw[List.mapM_cons,Sem.run_bind,hv]
   simp only[Result.andThen_ok,Sem.run_bind,na,Sem.run_pure]
  ·cases hx
theorem Spec.intro[jh P]{f:FuncId}{fn:Func}{fc:FC}{as:List AV}{Q:cU→Store→Prop}(hf:P.funcs[f]? =some fn)(hc:bZ P fn=some fc)(hlen:as.length≤fc.N)(h:SW P fc.N fc.code (j0 fc.res Q) (iM 0 as) σ):Spec P f as σ Q:=by
 intro M w0 w cs hI hl
 unfold bZ at hc
 split at hc
 ·rename_i c hb
  split at hc
  ·rename_i s r hs hr
   cases hc
   have hle:cs.length≤fn.ntmps:=by rw[← hl.1];exact hlen
   refine calls_of_wp hf hb (wp_mono (mF (h c hs M w0 _ w hI ?_ ?_ jh.h.symm)) ?_)
   ·refine BU as cs 0 _ hl (fun i v hv=> ?_)
    have hi:i<cs.length:=(ZP.1 hv).1
    rw[Y8,Ye (by simpa using hi)]
    simpa using hv
   ·simp;omega
   ·rintro e a' w' ⟨M',ao,σ',hM,bo,rh,hN,hD,hq⟩
    rw[jh.h]at hD
    have fin:∀ x,u4 ao σ' r=some x→Q (.ret x) σ'→a'.defers=[]∧∃ v,(results fn a'.tmps).run P w'= .ok v w'∧∃ M' r NT,M.le M'∧Inv P M' w0 NT w'∧s4 M' r (.returned v)∧Q r NT:=by
     intro x hx hQ
     unfold u4 at hx
     have fq:∀ xs,qh ao σ' r=some xs→∃ vs,(fn.results.mapM (u7 a'.tmps):Sem (Array Value)).run P w'= .ok vs.toArray w'∧RL M' xs vs:=by
      intro xs eE
      obtain⟨vs,h1,h2⟩:=LX fn.results.toList r xs hr eE bo rh
      exact⟨vs,by rw[Array.mapM_eq_mapM_toList,Sem.run_map,h1];rfl,h2⟩
     split at hx
     ·rename_i y hy
      cases hx
      obtain⟨vs,h1,h2⟩:=fq _ hy
      obtain⟨v,gL,rfl,h3,h4⟩:=h2.cE
      obtain rfl:=h4.sD
      refine⟨hD,v,?_,M',.ret x,σ',hM,bo,h3,hQ⟩
      rw[LW,Sem.run_bind,h1]
      simp
     ·rename_i xs aR hy
      cases hx
      obtain⟨vs,h1,h2⟩:=fq _ hy
      refine⟨hD,.tuple vs.toArray,?_,M',.ret (.aL xs),σ',hM,bo,R.D0 h2,hQ⟩
      rw[LW,Sem.run_bind,h1]
      simp only[Result.andThen_ok,Sem.run_pure]
      rw[dif_neg]
      intro aT
      have oh:xs.length=1:=by rw[h2.1];simpa using aT
      obtain⟨y,rfl⟩:=List.length_eq_one_iff.1 oh
      exact aR y rfl
     ·cases hx
    cases e with
    |normal=>obtain⟨x,hx,hQ⟩:=hq;exact fin x hx hQ
    |ret=>obtain⟨x,hx,hQ⟩:=hq;exact fin x hx hQ
    |panic ch=>exact⟨hD,M',.cC ch,σ',hM,bo,rfl,hq⟩
    |_=>exact hq.elim
  ·cases hc
 ·cases hc
def kN(res:List RC)(r:AV)(σ:Store):Exit→ae→Store→Prop
 | .normal,rg,σ'| .ret,rg,σ'=>∃ x,u4 rg σ' res=some x∧Wk x r∧Sub σ σ'
 |_,_,_=>False
theorem Spec.weak{f:FuncId}{as:List AV}{Q Q':cU→Store→Prop}(h:Spec P f as σ Q)(hq:∀ r σ',Q r σ'→∃ r2 aw,Q' r2 aw∧Sub aw σ'∧(match r,r2 with| .ret x,.ret y=>Wk x y| .cC c,.cC c'=>c=c'|_,_=>False)):Spec P f as σ Q':=by
 intro M w0 w cs hI hl
 refine(h M w0 w cs hI hl).mono fun e w' ⟨M',r,σ',a,b,c,d⟩=> ?_
 obtain⟨r2,aw,h1,h2,h3⟩:=hq r σ' d
 refine⟨M',r2,aw,a,b.sub h2,?_,h1⟩
 cases r with
 |ret x=>
  cases r2 with
  |ret y=>cases e<;>first|exact h3 _ _ c|exact c
  |cC c'=>exact h3.elim
 |cC ch=>
  cases r2 with
  |ret y=>exact h3.elim
  |cC c'=>have:ch=c':=h3;subst this;exact c
theorem Pure.intro[jh P]{f:FuncId}{fn:Func}{fc:FC}{as:List AV}{r:AV}(hf:P.funcs[f]? =some fn)(hc:bZ P fn=some fc)(hlen:as.length≤fc.N)(h:∀ σ,SW P fc.N fc.code (kN fc.res r σ) (iM 0 as) σ):Pure P f as r:=by
 refine⟨fun σ=> ?_⟩
 have:=Spec.intro (Q:=fun r' σ'=>∃ x,r'= .ret x∧Wk x r∧Sub σ σ') hf hc hlen ((h σ).mono (fun e rg σ' hq=>by
  cases e with
  |normal=>obtain⟨x,h1,h2,h3⟩:=hq;exact⟨x,h1,x,rfl,h2,h3⟩
  |ret=>obtain⟨x,h1,h2,h3⟩:=hq;exact⟨x,h1,x,rfl,h2,h3⟩
  |_=>exact hq.elim))
 refine this.weak ?_
 rintro r' σ' ⟨x,rfl,h2,h3⟩
 exact⟨.ret r,σ,⟨rfl,rfl⟩,h3,h2⟩
end
end Go.Sx
