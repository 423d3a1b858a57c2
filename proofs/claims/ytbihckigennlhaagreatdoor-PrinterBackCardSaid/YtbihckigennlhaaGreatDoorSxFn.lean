/-
  The layer Sx, tenth part: functions.
-/
import Derived.Test.YtbihckigennlhaaGreatDoorSxCtl
set_option linter.unusedVariables false
set_option linter.unusedSimpArgs false
set_option linter.unusedSectionVars false
namespace Go.Sx
open Go.RowKit
inductive RC where
 |tmp (t:Nat)
 |cell (t:Nat) (agg:Bool) (n:Nat)
structure FC where
 N:Nat
 code:SC
 res:List RC
def compR1(P:Program)[Glob P]:ResultVar→Option RC
 | .tmp t=>some (.tmp t)
 | .cell t ty=>(aggT P ty).map fun(g,n)=> .cell t g n
def rvRun(tmps:Array Value):ResultVar→Sem Value
 | .tmp t=>pure (tmps.getD t undef)
 | .cell b t=>do loadVar t (← asAddr (tmps.getD b undef))
theorem results_eq(fn:Func)(tmps:Array Value):results fn tmps=(do let vs ← fn.results.mapM (rvRun tmps);pure (if h:vs.size=1 then vs[0]else .tuple vs)):=by
 unfold results
 have:(fun(x:ResultVar)=>match x with
  | .tmp t=>(pure (tmps.getD t undef):Sem Value)
  | .cell a t=>do loadVar t (← asAddr (tmps.getD a undef)))=rvRun tmps:=by
  funext x;cases x<;>rfl
 rw[← this]
 congr 2
def compRes(P:Program)[Glob P]:List ResultVar→Option (List RC)
 |[]=>some []
 | .tmp t::l=>(compRes P l).map (.tmp t::·)
 | .cell t ty::l=>match aggT P ty with
  |some (g,n)=>(compRes P l).map (.cell t g n::·)
  |none=>none
def compF(P:Program)[Glob P](fn:Func):Option FC:=
 match fn.body with
 |some c=>match compC P fn.ntmps c,compRes P fn.results.toList with
  |some s,some r=>some ⟨fn.ntmps,s,r⟩
  |_,_=>none
 |none=>none
def res1(rg:Regs)(σ:Store):RC→Option AV
 | .tmp t=>some (lk rg t)
 | .cell t g n=>match lk rg t with
  | .lp tg b o=>match lkt σ tg with
   |some (b',.cells l)=>if b=b' then(if g then(if o+n≤l.length then some (.agg ((l.drop o).take n))else none)else l[o]?)else none
   |_=>none
  |_=>none
def resL(rg:Regs)(σ:Store):List RC→Option (List AV)
 |[]=>some []
 |r::l=>match res1 rg σ r with
  |some x=>(resL rg σ l).map (x::·)
  |none=>none
def resA(rg:Regs)(σ:Store)(l:List RC):Option AV:=
 match resL rg σ l with
 |some [x]=>some x
 |some xs=>some (.tup xs)
 |none=>none
def Sub(σ σ':Store):Prop:=(σ.map (·.2)).Sublist (σ'.map (·.2))
theorem Sub.refl(σ:Store):Sub σ σ:=List.Sublist.refl _
theorem Sub.trans{a b c:Store}(h:Sub a b)(k:Sub b c):Sub a c:=List.Sublist.trans h k
theorem Sub.cons{σ σ':Store}{t b:Nat}{x:Blk}(h:Sub σ σ'):Sub σ ((t,b,x)::σ'):=List.Sublist.cons _ h
theorem Sub.same{σ σ':Store}{t t' b:Nat}{x:Blk}(h:Sub σ σ'):Sub ((t,b,x)::σ) ((t',b,x)::σ'):=List.Sublist.cons_cons _ h
theorem Inv.sub{P:Program}[Glob P]{M:Mem}{w0:Base}{w:World}{σ σ':Store}(hI:Inv P M w0 σ' w)(h:Sub σ σ'):Inv P M w0 σ w:=by
 refine⟨hI.os,hI.tape,hI.output,hI.size,hI.old,hI.imm,fun e he=> ?_,?_,hI.gl,hI.gw,hI.bm⟩
 ·have hm:e.2∈σ'.map (·.2):=h.subset (List.mem_map_of_mem he)
  obtain⟨e',he',h2⟩:=List.mem_map.1 hm
  have:=hI.st e' he'
  rw[← h2]
  exact this
 ·have h2:=h.map (·.1)
  simp only[List.map_map]at h2
  exact hI.nd.sublist h2
def Wk(x y:AV):Prop:=∀ M v,R M x v→R M y v
theorem Wk.refl(x:AV):Wk x x:=fun _ _ h=>h
theorem Wk.own{ez t b u c:Nat}{rows:List (List AV)}(nn:Bool):Wk (.own ez t b u c rows) (.sl nn ez rows):=fun _ _ h=>h.own_sl nn
theorem Wk.sl{ez:Nat}{rows:List (List AV)}:Wk (.sl true ez rows) (.sl false ez rows):=fun _ _ h=>h.sl_weak
theorem Wk.nil{ez:Nat}:Wk (.v (.slice none 0 0)) (.sl false ez []):=fun _ _ h=>by rw[h.of_v];exact .nil _ ez none (fun h=>nomatch h)
theorem Wk.lp{t t' b o:Nat}:Wk (.lp t b o) (.lp t' b o):=fun _ _ h=>by rw[h.of_lp];exact .lp _ _ _
theorem Wk.raw{t' b o:Nat}:Wk (.v (.pointer (some ⟨b,o,none⟩))) (.lp t' b o):=fun _ _ h=>by rw[h.of_v];exact .lp _ _ _
theorem Wk.any(x:AV):Wk x .any:=fun _ v _=> .any v
theorem Wk.ofeq{x y:AV}(h:x=y):Wk x y:=h ▸ Wk.refl x
inductive WkL:List AV→List AV→Prop
 |nil:WkL [] []
 |cons {x y:AV} {xs ys:List AV} (h:Wk x y) (t:WkL xs ys):WkL (x::xs) (y::ys)
theorem WkL.refl:∀ (l:List AV),WkL l l
 |[]=> .nil
 |x::l=> .cons (Wk.refl x) (WkL.refl l)
theorem WkL.sound{M:Mem}{xs ys:List AV}(h:WkL xs ys):∀ {vs:List Value},RL M xs vs→RL M ys vs:=by
 induction h with
 |nil=>exact fun h=>h
 |cons hx _ ih=>
  intro vs h
  obtain⟨v,vs',rfl,h1,h2⟩:=h.uncons
  exact RL.cons (hx _ _ h1) (ih h2)
theorem WkL.append{a b c d:List AV}(h:WkL a b)(k:WkL c d):WkL (a++c) (b++d):=by
 induction h with
 |nil=>exact k
 |cons hx _ ih=>exact .cons hx ih
theorem Wk.agg{xs ys:List AV}(h:WkL xs ys):Wk (.agg xs) (.agg ys):=fun _ _ k=>by
 obtain⟨cs,rfl,hl⟩:=k.of_agg
 exact R.mk_agg (h.sound hl)
theorem Wk.tup{xs ys:List AV}(h:WkL xs ys):Wk (.tup xs) (.tup ys):=fun _ _ k=>by
 obtain⟨cs,rfl,hl⟩:=k.of_tup
 exact R.mk_tup (h.sound hl)
theorem Wk.trans{x y z:AV}(h:Wk x y)(k:Wk y z):Wk x z:=fun M v hx=>k M v (h M v hx)
theorem Spec.wk{P:Program}[Glob P]{f:FuncId}{as bs:List AV}{σ:Store}{Q:Res→Store→Prop}(h:Spec P f bs σ Q)(hw:WkL as bs):Spec P f as σ Q:=
 fun M w0 w cs hI hl=>h M w0 w cs hI (hw.sound hl)
theorem Pure.wk{P:Program}[Glob P]{f:FuncId}{as bs:List AV}{r:AV}(h:Pure P f bs r)(hw:WkL as bs):Pure P f as r:=⟨fun σ=>(h.sp σ).wk hw⟩
theorem Spec.mono{P:Program}[Glob P]{f:FuncId}{as:List AV}{σ:Store}{Q Q':Res→Store→Prop}(h:Spec P f as σ Q)(hq:∀ r σ',Q r σ'→Q' r σ'):Spec P f as σ Q':=
 fun M w0 w cs hI hl=>(h M w0 w cs hI hl).mono fun _ _ ⟨M',r,σ',a,b,c,d⟩=>⟨M',r,σ',a,b,c,hq _ _ d⟩
def argR:Nat→List AV→Regs
 |_,[]=>[]
 |k,x::l=>(k,x)::argR (k+1) l
def retQ(res:List RC)(Q:Res→Store→Prop):Exit→Regs→Store→Prop
 | .normal,rg,σ| .ret,rg,σ=>∃ x,resA rg σ res=some x∧Q (.ret x) σ
 | .panic ch,_,σ=>Q (.pan ch) σ
 |_,_,_=>False
section
variable {P:Program}[Glob P]{M:Mem}{w0:Base}{w:World}{σ:Store}{rg:Regs}{a:Act}
theorem argR_ok:∀ (as:List AV) (vs:List Value) (k:Nat) (tmps:Array Value),RL M as vs→(∀ i v,vs[i]? =some v→tmps[k+i]? =some v)→∀ i,R M (lk (argR k as) i) (tmps.getD i undef)
 |[],vs,k,tmps,_,_,i=> .any _
 |x::as,vs,k,tmps,h,ht,i=>by
  obtain⟨v,vs',rfl,hx,hxs⟩:=h.uncons
  simp only[argR,lk]
  cases hb:Nat.beq k i with
  |true=>
   have e:=Nat.eq_of_beq_eq_true hb
   subst e
   have:=ht 0 v rfl
   simp only[Nat.add_zero]at this
   rw[Array.getD_eq_getD_getElem?,this]
   exact hx
  |false=>exact argR_ok as vs' (k+1) tmps hxs (fun j u hu=>by have:=ht (j+1) u (by simpa using hu);rwa [show k+1+j=k+(j+1)from by omega]) i
theorem res1_ok{r:RC}{rv:ResultVar}{x:AV}(hc:compR1 P rv=some r)(hx:res1 rg σ r=some x)(hI:Inv P M w0 σ w)(hR:RegsOK M rg a):
  ∃ v,(rvRun a.tmps rv).run P w= .ok v w∧R M x v:=by
 cases rv with
 |tmp t=>
  simp only[compR1,Option.some.injEq]at hc
  subst hc
  simp only[res1,Option.some.injEq]at hx
  subst hx
  exact⟨_,rfl,hR t⟩
 |cell t ty=>
  simp only[compR1]at hc
  obtain⟨⟨g,n⟩,hg,rfl⟩:=Option.map_eq_some_iff.1 hc
  simp only[res1]at hx
  have ht:=hR t
  split at hx
  ·rename_i tg b o he
   rw[he]at ht
   have hv:=ht.of_lp
   split at hx
   ·rename_i b' l hb
    split at hx
    case isFalse=>cases hx
    rename_i hbb
    subst hbb
    have hcell:∀ i y,(l.drop o)[i]? =some y→∃ v,w.cell? ⟨b,o+i,none⟩=some v∧R M y v:=fun i y e=>by
     rw[List.getElem?_drop]at e
     exact hI.cell hb e
    obtain⟨v,y,hr,hRv,rfl⟩:=s_load_cells (P:=P) (σ:=σ) (K:=fun y _=>y=x) hg (l.drop o) hcell (by
     cases g with
     |true=>
      simp only[if_true]at hx ⊢
      split at hx
      ·rename_i hlt;simp only[Option.some.injEq]at hx;exact⟨by simp;omega,hx⟩
      ·cases hx
     |false=>
      simp only[Bool.false_eq_true,if_false]at hx ⊢
      rw[List.getElem?_drop,Nat.add_zero,hx])
    refine⟨v,?_,hRv⟩
    simp only[rvRun,hv]
    simpa[Instr.loadAt,Instr.sureAddr,asAddr]using hr
   ·cases hx
  ·cases hx
theorem results_ok:∀ (rvs:List ResultVar) (rs:List RC) (xs:List AV),compRes P rvs=some rs→resL rg σ rs=some xs→Inv P M w0 σ w→RegsOK M rg a→
  ∃ vs,(rvs.mapM (rvRun a.tmps):Sem (List Value)).run P w= .ok vs w∧RL M xs vs
 |[],rs,xs,hc,hx,_,_=>by
  simp only[compRes,Option.some.injEq]at hc
  subst hc
  simp only[resL,Option.some.injEq]at hx
  subst hx
  exact⟨[],rfl,RL.nil⟩
 |rv::rvs,rs,xs,hc,hx,hI,hR=>by
  obtain⟨r,rs',rfl,hr,hrs⟩:∃ r rs',rs=r::rs'∧compR1 P rv=some r∧compRes P rvs=some rs':=by
   cases rv with
   |tmp t=>
    simp only[compRes]at hc
    obtain⟨rs',h1,rfl⟩:=Option.map_eq_some_iff.1 hc
    exact⟨_,rs',rfl,rfl,h1⟩
   |cell t ty=>
    simp only[compRes]at hc
    split at hc
    ·rename_i g n hg
     obtain⟨rs',h1,rfl⟩:=Option.map_eq_some_iff.1 hc
     exact⟨_,rs',rfl,by simp[compR1,hg],h1⟩
    ·cases hc
  simp only[resL]at hx
  split at hx
  ·rename_i x hx1
   obtain⟨xs',h2,rfl⟩:=Option.map_eq_some_iff.1 hx
   obtain⟨v,hv,hRv⟩:=res1_ok hr hx1 hI hR
   obtain⟨vs,hvs,hRL⟩:=results_ok rvs rs' xs' hrs h2 hI hR
   refine⟨v::vs,?_,RL.cons hRv hRL⟩
   rw[List.mapM_cons,Sem.run_bind,hv]
   simp only[Result.andThen_ok,Sem.run_bind,hvs,Sem.run_pure]
  ·cases hx
theorem Spec.intro[NoD P]{f:FuncId}{fn:Func}{fc:FC}{as:List AV}{Q:Res→Store→Prop}(hf:P.funcs[f]? =some fn)(hc:compF P fn=some fc)(hlen:as.length≤fc.N)(h:SW P fc.N fc.code (retQ fc.res Q) (argR 0 as) σ):Spec P f as σ Q:=by
 intro M w0 w cs hI hl
 unfold compF at hc
 split at hc
 ·rename_i c hb
  split at hc
  ·rename_i s r hs hr
   cases hc
   have hle:cs.length≤fn.ntmps:=by rw[← hl.1];exact hlen
   refine calls_of_wp hf hb (wp_mono (cwp_wp (h c hs M w0 _ w hI ?_ ?_ NoD.h.symm)) ?_)
   ·refine argR_ok as cs 0 _ hl (fun i v hv=> ?_)
    have hi:i<cs.length:=(List.getElem?_eq_some_iff.1 hv).1
    rw[Nat.zero_add,Array.getElem?_append_left (by simpa using hi)]
    simpa using hv
   ·simp;omega
   ·rintro e a' w' ⟨M',rg',σ',hM,hI',hR',hN,hD,hq⟩
    rw[NoD.h]at hD
    have fin:∀ x,resA rg' σ' r=some x→Q (.ret x) σ'→a'.defers=[]∧∃ v,(results fn a'.tmps).run P w'= .ok v w'∧∃ M' r σ'',M.le M'∧Inv P M' w0 σ'' w'∧RRes M' r (.returned v)∧Q r σ'':=by
     intro x hx hQ
     unfold resA at hx
     have hrun:∀ xs,resL rg' σ' r=some xs→∃ vs,(fn.results.mapM (rvRun a'.tmps):Sem (Array Value)).run P w'= .ok vs.toArray w'∧RL M' xs vs:=by
      intro xs hxs
      obtain⟨vs,h1,h2⟩:=results_ok fn.results.toList r xs hr hxs hI' hR'
      exact⟨vs,by rw[Array.mapM_eq_mapM_toList,Sem.run_map,h1];rfl,h2⟩
     split at hx
     ·rename_i y hy
      cases hx
      obtain⟨vs,h1,h2⟩:=hrun _ hy
      obtain⟨v,vs',rfl,h3,h4⟩:=h2.uncons
      obtain rfl:=h4.unnil
      refine⟨hD,v,?_,M',.ret x,σ',hM,hI',h3,hQ⟩
      rw[results_eq,Sem.run_bind,h1]
      simp
     ·rename_i xs hne hy
      cases hx
      obtain⟨vs,h1,h2⟩:=hrun _ hy
      refine⟨hD,.tuple vs.toArray,?_,M',.ret (.tup xs),σ',hM,hI',R.mk_tup h2,hQ⟩
      rw[results_eq,Sem.run_bind,h1]
      simp only[Result.andThen_ok,Sem.run_pure]
      rw[dif_neg]
      intro hsz
      have hl1:xs.length=1:=by rw[h2.1];simpa using hsz
      obtain⟨y,rfl⟩:=List.length_eq_one_iff.1 hl1
      exact hne y rfl
     ·cases hx
    cases e with
    |normal=>obtain⟨x,hx,hQ⟩:=hq;exact fin x hx hQ
    |ret=>obtain⟨x,hx,hQ⟩:=hq;exact fin x hx hQ
    |panic ch=>exact⟨hD,M',.pan ch,σ',hM,hI',rfl,hq⟩
    |_=>exact hq.elim
  ·cases hc
 ·cases hc
def pureQ(res:List RC)(r:AV)(σ:Store):Exit→Regs→Store→Prop
 | .normal,rg,σ'| .ret,rg,σ'=>∃ x,resA rg σ' res=some x∧Wk x r∧Sub σ σ'
 |_,_,_=>False
theorem Spec.weak{f:FuncId}{as:List AV}{Q Q':Res→Store→Prop}(h:Spec P f as σ Q)(hq:∀ r σ',Q r σ'→∃ r2 σ2,Q' r2 σ2∧Sub σ2 σ'∧(match r,r2 with| .ret x,.ret y=>Wk x y| .pan c,.pan c'=>c=c'|_,_=>False)):Spec P f as σ Q':=by
 intro M w0 w cs hI hl
 refine(h M w0 w cs hI hl).mono fun e w' ⟨M',r,σ',a,b,c,d⟩=> ?_
 obtain⟨r2,σ2,h1,h2,h3⟩:=hq r σ' d
 refine⟨M',r2,σ2,a,b.sub h2,?_,h1⟩
 cases r with
 |ret x=>
  cases r2 with
  |ret y=>cases e<;>first|exact h3 _ _ c|exact c
  |pan c'=>exact h3.elim
 |pan ch=>
  cases r2 with
  |ret y=>exact h3.elim
  |pan c'=>have:ch=c':=h3;subst this;exact c
theorem Pure.intro[NoD P]{f:FuncId}{fn:Func}{fc:FC}{as:List AV}{r:AV}(hf:P.funcs[f]? =some fn)(hc:compF P fn=some fc)(hlen:as.length≤fc.N)(h:∀ σ,SW P fc.N fc.code (pureQ fc.res r σ) (argR 0 as) σ):Pure P f as r:=by
 refine⟨fun σ=> ?_⟩
 have:=Spec.intro (Q:=fun r' σ'=>∃ x,r'= .ret x∧Wk x r∧Sub σ σ') hf hc hlen ((h σ).mono (fun e rg σ' hq=>by
  cases e with
  |normal=>obtain⟨x,h1,h2,h3⟩:=hq;exact⟨x,h1,x,rfl,h2,h3⟩
  |ret=>obtain⟨x,h1,h2,h3⟩:=hq;exact⟨x,h1,x,rfl,h2,h3⟩
  |_=>exact hq.elim))
 refine this.weak ?_
 rintro r' σ' ⟨x,rfl,h2,h3⟩
 exact⟨.ret r,σ,⟨rfl,rfl⟩,h3,h2⟩
end
end Go.Sx
