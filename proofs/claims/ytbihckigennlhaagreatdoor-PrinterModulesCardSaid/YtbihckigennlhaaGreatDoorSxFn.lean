/-
  The layer Sx, tenth part: functions.
-/
import Derived.Test.YtbihckigennlhaaGreatDoorSxCtl
set_option linter.unusedVariables false
set_option linter.unusedSimpArgs false
set_option linter.unusedSectionVars false
namespace Go.Sx
open Go.RowKit
inductive RC where
 |tmp (t:Nat)
 |cell (t:Nat) (agg:Bool) (n:Nat)
structure FC where
 N:Nat
 code:SC
 res:List RC
def xz(P:Program)[Glob P]:ResultVar→Option RC
 | .tmp t=>some (.tmp t)
 | .cell t ty=>(gq P ty).map fun(g,n)=> .cell t g n
def aBT(tmps:Array Value):ResultVar→Sem Value
 | .tmp t=>pure (tmps.getD t undef)
 | .cell b t=>do loadVar t (← asAddr (tmps.getD b undef))
theorem Oh(fn:Func)(tmps:Array Value):results fn tmps=(do let vs ← fn.results.mapM (aBT tmps);pure (if h:vs.size=1 then vs[0]else .tuple vs)):=by
 unfold results
 have:(fun(x:ResultVar)=>match x with
  | .tmp t=>(pure (tmps.getD t undef):Sem Value)
  | .cell a t=>do loadVar t (← asAddr (tmps.getD a undef)))=aBT tmps:=by
  funext x;cases x<;>rfl
 rw[← this]
 congr 2
def qm(P:Program)[Glob P]:List ResultVar→Option (List RC)
 |[]=>some []
 | .tmp t::l=>(qm P l).map (.tmp t::·)
 | .cell t ty::l=>match gq P ty with
  |some (g,n)=>(qm P l).map (.cell t g n::·)
  |none=>none
def cm(P:Program)[Glob P](fn:Func):Option FC:=
 match fn.body with
 |some c=>match eB P fn.ntmps c,qm P fn.results.toList with
  |some s,some r=>some ⟨fn.ntmps,s,r⟩
  |_,_=>none
 |none=>none
def tM(rg:ae)(σ:Store):RC→Option AV
 | .tmp t=>some (lk rg t)
 | .cell t g n=>match lk rg t with
  | .lp tg b o=>match aN σ tg with
   |some (b',.cells l)=>if b=b' then(if g then(if o+n≤l.length then some (.agg ((l.drop o).take n))else none)else l[o]?)else none
   |_=>none
  |_=>none
def rz(rg:ae)(σ:Store):List RC→Option (List AV)
 |[]=>some []
 |r::l=>match tM rg σ r with
  |some x=>(rz rg σ l).map (x::·)
  |none=>none
def wh(rg:ae)(σ:Store)(l:List RC):Option AV:=
 match rz rg σ l with
 |some [x]=>some x
 |some xs=>some (.aI xs)
 |none=>none
def Sub(σ σ':Store):Prop:=(σ.map (·.2)).Sublist (σ'.map (·.2))
theorem Sub.refl(σ:Store):Sub σ σ:=List.Sublist.refl _
theorem Sub.trans{a b c:Store}(h:Sub a b)(k:Sub b c):Sub a c:=List.Sublist.trans h k
theorem Sub.cons{σ σ':Store}{t b:Nat}{x:bN}(h:Sub σ σ'):Sub σ ((t,b,x)::σ'):=List.Sublist.cons _ h
theorem Sub.same{σ σ':Store}{t t' b:Nat}{x:bN}(h:Sub σ σ'):Sub ((t,b,x)::σ) ((t',b,x)::σ'):=List.Sublist.cons_cons _ h
theorem Inv.sub{P:Program}[Glob P]{M:Mem}{w0:Base}{w:World}{σ σ':Store}(hI:Inv P M w0 σ' w)(h:Sub σ σ'):Inv P M w0 σ w:=by
 refine⟨hI.os,hI.tape,hI.output,hI.size,hI.old,hI.dB,fun e he=> ?_,?_,hI.gl,hI.gw,hI.bm⟩
 ·have hm:e.2∈σ'.map (·.2):=h.subset (YT he)
  obtain⟨e',vi,h2⟩:=YS.1 hm
  have:=hI.st e' vi
  rw[← h2]
  exact this
 ·have h2:=h.map (·.1)
  simp only[Yw]at h2
  exact hI.nd.sublist h2
def Wk(x y:AV):Prop:=∀ M v,R M x v→R M y v
theorem Wk.refl(x:AV):Wk x x:=fun _ _ h=>h
theorem Wk.own{ez t b u c:Nat}{rows:List (List AV)}(nn:Bool):Wk (.own ez t b u c rows) (.sl nn ez rows):=fun _ _ h=>h.adn nn
theorem Wk.sl{ez:Nat}{rows:List (List AV)}:Wk (.sl true ez rows) (.sl false ez rows):=fun _ _ h=>h.ax2
theorem Wk.nil{ez:Nat}:Wk (.v (.slice none 0 0)) (.sl false ez []):=fun _ _ h=>by rw[h.az];exact .nil _ ez none (fun h=>nomatch h)
theorem Wk.lp{t t' b o:Nat}:Wk (.lp t b o) (.lp t' b o):=fun _ _ h=>by rw[h.mQ];exact .lp _ _ _
theorem Wk.raw{t' b o:Nat}:Wk (.v (.pointer (some ⟨b,o,none⟩))) (.lp t' b o):=fun _ _ h=>by rw[h.az];exact .lp _ _ _
theorem Wk.any(x:AV):Wk x .any:=fun _ v _=> .any v
theorem Wk.mS{x y:AV}(h:x=y):Wk x y:=h ▸ Wk.refl x
inductive bH:List AV→List AV→Prop
 |nil:bH [] []
 |cons {x y:AV} {xs ys:List AV} (h:Wk x y) (t:bH xs ys):bH (x::xs) (y::ys)
theorem bH.refl:∀ (l:List AV),bH l l
 |[]=> .nil
 |x::l=> .cons (Wk.refl x) (bH.refl l)
theorem bH.sound{M:Mem}{xs ys:List AV}(h:bH xs ys):∀ {vs:List Value},RL M xs vs→RL M ys vs:=by
 induction h with
 |nil=>exact fun h=>h
 |cons hx _ ih=>
  intro vs h
  obtain⟨v,iu,rfl,h1,h2⟩:=h.cN
  exact RL.cons (hx _ _ h1) (ih h2)
theorem bH.append{a b c d:List AV}(h:bH a b)(k:bH c d):bH (a++c) (b++d):=by
 induction h with
 |nil=>exact k
 |cons hx _ ih=>exact .cons hx ih
theorem Wk.agg{xs ys:List AV}(h:bH xs ys):Wk (.agg xs) (.agg ys):=fun _ _ k=>by
 obtain⟨cs,rfl,hl⟩:=k.vS
 exact R.tA (h.sound hl)
theorem Wk.aI{xs ys:List AV}(h:bH xs ys):Wk (.aI xs) (.aI ys):=fun _ _ k=>by
 obtain⟨cs,rfl,hl⟩:=k.BI
 exact R.FE (h.sound hl)
theorem Wk.trans{x y z:AV}(h:Wk x y)(k:Wk y z):Wk x z:=fun M v hx=>k M v (h M v hx)
theorem Spec.wk{P:Program}[Glob P]{f:FuncId}{as bs:List AV}{σ:Store}{Q:dj→Store→Prop}(h:Spec P f bs σ Q)(hw:bH as bs):Spec P f as σ Q:=
 fun M w0 w cs hI hl=>h M w0 w cs hI (hw.sound hl)
theorem Pure.wk{P:Program}[Glob P]{f:FuncId}{as bs:List AV}{r:AV}(h:Pure P f bs r)(hw:bH as bs):Pure P f as r:=⟨fun σ=>(h.sp σ).wk hw⟩
theorem Spec.mono{P:Program}[Glob P]{f:FuncId}{as:List AV}{σ:Store}{Q Q':dj→Store→Prop}(h:Spec P f as σ Q)(hq:∀ r σ',Q r σ'→Q' r σ'):Spec P f as σ Q':=
 fun M w0 w cs hI hl=>(h M w0 w cs hI hl).mono fun _ _ ⟨M',r,σ',a,b,c,d⟩=>⟨M',r,σ',a,b,c,hq _ _ d⟩
def jw:Nat→List AV→ae
 |_,[]=>[]
 |k,x::l=>(k,x)::jw (k+1) l
def kQ(res:List RC)(Q:dj→Store→Prop):Exit→ae→Store→Prop
 | .normal,rg,σ| .ret,rg,σ=>∃ x,wh rg σ res=some x∧Q (.ret x) σ
 | .panic ch,_,σ=>Q (.cL ch) σ
 |_,_,_=>False
section
variable {P:Program}[Glob P]{M:Mem}{w0:Base}{w:World}{σ:Store}{rg:ae}{a:Act}
theorem Dl:∀ (as:List AV) (vs:List Value) (k:Nat) (tmps:Array Value),RL M as vs→(∀ i v,vs[i]? =some v→tmps[k+i]? =some v)→∀ i,R M (lk (jw k as) i) (tmps.getD i undef)
 |[],vs,k,tmps,_,_,i=> .any _
 |x::as,vs,k,tmps,h,ht,i=>by
  obtain⟨v,iu,rfl,hx,fa⟩:=h.cN
  simp only[jw,lk]
  cases hb:Nat.beq k i with
  |true=>
   have e:=ZL hb
   subst e
   have:=ht 0 v rfl
   simp only[YN]at this
   rw[Z2,this]
   exact hx
  |false=>exact Dl as iu (k+1) tmps fa (fun j u hu=>by have:=ht (j+1) u (by simpa using hu);rwa [show k+1+j=k+(j+1)from by omega]) i
theorem aea{r:RC}{rv:ResultVar}{x:AV}(hc:xz P rv=some r)(hx:tM rg σ r=some x)(hI:Inv P M w0 σ w)(hR:bE M rg a):
  ∃ v,(aBT a.tmps rv).run P w= .ok v w∧R M x v:=by
 cases rv with
 |tmp t=>
  simp only[xz,Z5]at hc
  subst hc
  simp only[tM,Z5]at hx
  subst hx
  exact⟨_,rfl,hR t⟩
 |cell t ty=>
  simp only[xz]at hc
  obtain⟨⟨g,n⟩,hg,rfl⟩:=ZR.1 hc
  simp only[tM]at hx
  have ht:=hR t
  split at hx
  ·rename_i tg b o he
   rw[he]at ht
   have hv:=ht.mQ
   split at hx
   ·rename_i b' l hb
    split at hx
    case isFalse=>cases hx
    rename_i Xy
    subst Xy
    have hcell:∀ i y,(l.drop o)[i]? =some y→∃ v,w.cell? ⟨b,o+i,none⟩=some v∧R M y v:=fun i y e=>by
     rw[Ys]at e
     exact hI.cell hb e
    obtain⟨v,y,hr,Ee,rfl⟩:=B6 (P:=P) (σ:=σ) (K:=fun y _=>y=x) hg (l.drop o) hcell (by
     cases g with
     |true=>
      simp only[Y7]at hx ⊢
      split at hx
      ·rename_i aH;simp only[Z5]at hx;exact⟨by simp;omega,hx⟩
      ·cases hx
     |false=>
      simp only[ZS,Zt]at hx ⊢
      rw[Ys,YN,hx])
    refine⟨v,?_,Ee⟩
    simp only[aBT,hv]
    simpa[Instr.loadAt,Instr.sureAddr,asAddr]using hr
   ·cases hx
  ·cases hx
theorem Oi:∀ (y5:List ResultVar) (rs:List RC) (xs:List AV),qm P y5=some rs→rz rg σ rs=some xs→Inv P M w0 σ w→bE M rg a→
  ∃ vs,(y5.mapM (aBT a.tmps):Sem (List Value)).run P w= .ok vs w∧RL M xs vs
 |[],rs,xs,hc,hx,_,_=>by
  simp only[qm,Z5]at hc
  subst hc
  simp only[rz,Z5]at hx
  subst hx
  exact⟨[],rfl,RL.nil⟩
 |rv::y5,rs,xs,hc,hx,hI,hR=>by
  obtain⟨r,rA,rfl,hr,hrs⟩:∃ r rA,rs=r::rA∧xz P rv=some r∧qm P y5=some rA:=by
   cases rv with
   |tmp t=>
    simp only[qm]at hc
    obtain⟨rA,h1,rfl⟩:=ZR.1 hc
    exact⟨_,rA,rfl,rfl,h1⟩
   |cell t ty=>
    simp only[qm]at hc
    split at hc
    ·rename_i g n hg
     obtain⟨rA,h1,rfl⟩:=ZR.1 hc
     exact⟨_,rA,rfl,by simp[xz,hg],h1⟩
    ·cases hc
  simp only[rz]at hx
  split at hx
  ·rename_i x jE
   obtain⟨xs',h2,rfl⟩:=ZR.1 hx
   obtain⟨v,hv,Ee⟩:=aea hr jE hI hR
   obtain⟨vs,nY,Xl⟩:=Oi y5 rA xs' hrs h2 hI hR
   refine⟨v::vs,?_,RL.cons Ee Xl⟩
   rw[List.mapM_cons,Sem.run_bind,hv]
   simp only[Result.andThen_ok,Sem.run_bind,nY,Sem.run_pure]
  ·cases hx
theorem Spec.intro[jO P]{f:FuncId}{fn:Func}{fc:FC}{as:List AV}{Q:dj→Store→Prop}(hf:P.funcs[f]? =some fn)(hc:cm P fn=some fc)(hlen:as.length≤fc.N)(h:SW P fc.N fc.code (kQ fc.res Q) (jw 0 as) σ):Spec P f as σ Q:=by
 intro M w0 w cs hI hl
 unfold cm at hc
 split at hc
 ·rename_i c hb
  split at hc
  ·rename_i s r hs hr
   cases hc
   have hle:cs.length≤fn.ntmps:=by rw[← hl.1];exact hlen
   refine calls_of_wp hf hb (wp_mono (nC (h c hs M w0 _ w hI ?_ ?_ jO.h.symm)) ?_)
   ·refine Dl as cs 0 _ hl (fun i v hv=> ?_)
    have hi:i<cs.length:=(ZN.1 hv).1
    rw[Zh,X4 (by simpa using hi)]
    simpa using hv
   ·simp;omega
   ·rintro e a' w' ⟨M',rg',σ',hM,hI',sK,hN,hD,hq⟩
    rw[jO.h]at hD
    have fin:∀ x,wh rg' σ' r=some x→Q (.ret x) σ'→a'.defers=[]∧∃ v,(results fn a'.tmps).run P w'= .ok v w'∧∃ M' r Qd,M.le M'∧Inv P M' w0 Qd w'∧uB M' r (.returned v)∧Q r Qd:=by
     intro x hx hQ
     unfold wh at hx
     have fO:∀ xs,rz rg' σ' r=some xs→∃ vs,(fn.results.mapM (aBT a'.tmps):Sem (Array Value)).run P w'= .ok vs.toArray w'∧RL M' xs vs:=by
      intro xs fa
      obtain⟨vs,h1,h2⟩:=Oi fn.results.toList r xs hr fa hI' sK
      exact⟨vs,by rw[Array.mapM_eq_mapM_toList,Sem.run_map,h1];rfl,h2⟩
     split at hx
     ·rename_i y hy
      cases hx
      obtain⟨vs,h1,h2⟩:=fO _ hy
      obtain⟨v,iu,rfl,h3,h4⟩:=h2.cN
      obtain rfl:=h4.ub
      refine⟨hD,v,?_,M',.ret x,σ',hM,hI',h3,hQ⟩
      rw[Oh,Sem.run_bind,h1]
      simp
     ·rename_i xs aQ hy
      cases hx
      obtain⟨vs,h1,h2⟩:=fO _ hy
      refine⟨hD,.tuple vs.toArray,?_,M',.ret (.aI xs),σ',hM,hI',R.FE h2,hQ⟩
      rw[Oh,Sem.run_bind,h1]
      simp only[Result.andThen_ok,Sem.run_pure]
      rw[dif_neg]
      intro hsz
      have hl1:xs.length=1:=by rw[h2.1];simpa using hsz
      obtain⟨y,rfl⟩:=List.length_eq_one_iff.1 hl1
      exact aQ y rfl
     ·cases hx
    cases e with
    |normal=>obtain⟨x,hx,hQ⟩:=hq;exact fin x hx hQ
    |ret=>obtain⟨x,hx,hQ⟩:=hq;exact fin x hx hQ
    |panic ch=>exact⟨hD,M',.cL ch,σ',hM,hI',rfl,hq⟩
    |_=>exact hq.elim
  ·cases hc
 ·cases hc
def lW(res:List RC)(r:AV)(σ:Store):Exit→ae→Store→Prop
 | .normal,rg,σ'| .ret,rg,σ'=>∃ x,wh rg σ' res=some x∧Wk x r∧Sub σ σ'
 |_,_,_=>False
theorem Spec.weak{f:FuncId}{as:List AV}{Q Q':dj→Store→Prop}(h:Spec P f as σ Q)(hq:∀ r σ',Q r σ'→∃ r2 σ2,Q' r2 σ2∧Sub σ2 σ'∧(match r,r2 with| .ret x,.ret y=>Wk x y| .cL c,.cL c'=>c=c'|_,_=>False)):Spec P f as σ Q':=by
 intro M w0 w cs hI hl
 refine(h M w0 w cs hI hl).mono fun e w' ⟨M',r,σ',a,b,c,d⟩=> ?_
 obtain⟨r2,σ2,h1,h2,h3⟩:=hq r σ' d
 refine⟨M',r2,σ2,a,b.sub h2,?_,h1⟩
 cases r with
 |ret x=>
  cases r2 with
  |ret y=>cases e<;>first|exact h3 _ _ c|exact c
  |cL c'=>exact h3.elim
 |cL ch=>
  cases r2 with
  |ret y=>exact h3.elim
  |cL c'=>have:ch=c':=h3;subst this;exact c
theorem Pure.intro[jO P]{f:FuncId}{fn:Func}{fc:FC}{as:List AV}{r:AV}(hf:P.funcs[f]? =some fn)(hc:cm P fn=some fc)(hlen:as.length≤fc.N)(h:∀ σ,SW P fc.N fc.code (lW fc.res r σ) (jw 0 as) σ):Pure P f as r:=by
 refine⟨fun σ=> ?_⟩
 have:=Spec.intro (Q:=fun r' σ'=>∃ x,r'= .ret x∧Wk x r∧Sub σ σ') hf hc hlen ((h σ).mono (fun e rg σ' hq=>by
  cases e with
  |normal=>obtain⟨x,h1,h2,h3⟩:=hq;exact⟨x,h1,x,rfl,h2,h3⟩
  |ret=>obtain⟨x,h1,h2,h3⟩:=hq;exact⟨x,h1,x,rfl,h2,h3⟩
  |_=>exact hq.elim))
 refine this.weak ?_
 rintro r' σ' ⟨x,rfl,h2,h3⟩
 exact⟨.ret r,σ,⟨rfl,rfl⟩,h3,h2⟩
end
end Go.Sx
