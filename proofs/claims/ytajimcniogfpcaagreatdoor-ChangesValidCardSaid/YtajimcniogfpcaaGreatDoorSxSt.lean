/-
  A region of open order with one call that turns the store: what the call reads, the call, what reads it.
-/
import Derived.Test.YtajimcniogfpcaaGreatDoorSxX
set_option linter.unusedVariables false
set_option linter.unusedSimpArgs false
set_option linter.unusedSectionVars false
namespace Go.Sx
open Go.RowKit
def An(l:List CI)(a b:Nat):Bool:=match l[a]?,l[b]? with
 |some x,some y=>match x.d with
  |some t=>y.reads.elem t
  |none=>false
 |_,_=>false
def ov(l:List CI)(k:Nat):Bool:=(List.range l.length).all fun j=>
 bif Nat.blt j k then(List.range (k+1)).any fun i=>Nat.blt j i && An l j i
 else(Nat.beq j k || (List.range j).any fun i=>Nat.ble k i && An l i j)
theorem Uf{l:List CI}{a b:Nat}(h:An l a b=true):∃ (ha:a<l.length) (hb:b<l.length) (t:Nat),l[a].d=some t∧t∈l[b].reads:=by
 unfold An at h
 grind
theorem akt{l:List CI}{k j:Nat}(h:ov l k=true)(hj:j<k)(hl:j<l.length):∃ i,j<i∧i≤k∧An l j i=true:=by
 have:=ZB.1 h j (by grind)
 have e:Nat.blt j k=true:=WZ hj
 rw[e]at this
 obtain⟨i,h1,h2⟩:=Ym.1 this
 rw[Z6]at h2
 exact⟨i,ZR h2.1,by grind,h2.2⟩
theorem aks{l:List CI}{k j:Nat}(h:ov l k=true)(hj:k<j)(hl:j<l.length):∃ i,k≤i∧i<j∧An l i j=true:=by
 have:=ZB.1 h j (by grind)
 have e:Nat.blt j k=false:=by
  cases e:Nat.blt j k with
  |false=>rfl
  |true=>have:j+1≤k:=ZR e;omega
 have e2:Nat.beq j k=false:=by
  cases e:Nat.beq j k with
  |false=>rfl
  |true=>have:=Z2 e;omega
 rw[e,e2]at this
 obtain⟨i,h1,h2⟩:=Ym.1 this
 rw[Z6]at h2
 exact⟨i,ZR h2.1,YT.1 h1,h2.2⟩
theorem C0:∀ (l l':List CI) (xs ys:List AV) (rg:af),xs.length=l.length→dH (l++l') (xs++ys) rg=dH l' ys (dH l xs rg)
 |[],l',[],ys,rg,_=>by rfl
 |c::l,l',x::xs,ys,rg,h=>by
  exact C0 l l' xs ys _ (by grind)
 |[],_,_::_,_,_,h=>by grind
 |_::_,_,[],_,_,h=>by grind
section
variable {P:Program}[Glob P]{M:Mem}{w0:Base}{w:World}{σ:Store}{rg:af}{a:Act}{cfg:Nat→Nat}{N:Nat}
theorem ND{l1 l2:List CI}{s:CI}{Q:Exit→af→Store→Prop}(cfg:Nat→Nat)(nV:s.op.cls=4∨pC (l1++s::l2) 0=none)(dM:ov (l1++s::l2) l1.length=true)(mW:s.g=none)
  (h:(∀ c∈l1++s::l2,c.op.cls≤1∨(c.op.cls=4∧c.g=none))→∃ xs:List AV,xs.length=l1.length∧(∀ i (h:i<l1.length) (h':i<xs.length),QV P cfg l1[i] (dH (l1.take i) (xs.take i) rg) σ xs[i])∧
   al P cfg s.d (dH l1 xs rg) σ (fun x σ'=>DE P cfg (fun ak=>Q .normal ak σ') l2 (bj s.d x (dH l1 xs rg)) σ') (fun _ _=>False) s.op∧(∀ c∈l1,c.op.cls≤1)):
  SW P N (.dF (l1++s::l2)) Q rg σ:=by
 intro c hc M w0 a w hI hR hN hD
 obtain⟨id,ops,rfl,hl,bM,uH⟩:=fU hc
 obtain⟨hlen,zK⟩:=D3 ops.toList _ hl
 obtain⟨xs,dp,hQ1,B7,w8⟩:=h (OX bM)
 clear h
 obtain⟨k,hK⟩:∃ k,l1.length=k:=⟨_,rfl⟩
 have xg:k<(l1++s::l2).length:=by simp[hK]
 have QO:(l1++s::l2)[k]=s:=by simp[← hK]
 have ae8:∀ i,i≤k→(l1++s::l2).take i=l1.take i:=fun i hi=>by rw[Y1 (by omega)]
 have QC:∀ i (h:i<k) (h':i<(l1++s::l2).length),(l1++s::l2)[i]=l1[i]'(by omega):=fun i h h'=>by simp[hK,h]
 have aeR:(l1++s::l2).length=k+(1+l2.length):=by simp[hK];omega
 have hp4:∀ k',pC (l1++s::l2) 0=some k'→k'=k:=by
  intro k' h4
  rcases nV with nV|nV
  case inr=>rw[nV]at h4;cases h4
  obtain⟨i,hi,e,h4,uJ⟩:=LS _ _ h4
  rcases XG i k with h|h|h
  ·exfalso
   rw[QC i h hi]at h4
   have:=w8 _ (Zc (show i<l1.length by omega))
   omega
  ·omega
  ·exfalso
   exact uJ k h xg (by rw[QO];exact nV)
 rw[hK]at dM
 generalize hL:l1++s::l2=l at *
 have hk:=xg
 have Cp:=QO
 have Ra:=ae8
 have aeL:=QC
 have uI:l.length=ops.size:=by simpa using hlen
 have aeS:(l.map (·.d)).Nodup∧∀ x∈(l.zip ops.toList).zipIdx,(x.1.2.after.all fun e=> !Region.binds .any e || decide (e.on<x.2))=true∧
   (x.1.1.reads.all fun t=>match posOf t (l.map (·.d)) 0 with
    |some j=>(x.1.2.after.any fun e=>Region.binds .any e && e.on == j) || (Nat.ble x.2 k && Nat.blt k j)
    |none=>true)=true:=by
  rcases bM with bM|bM
  ·unfold rD at bM
   simp only[Yl,Xz]at bM
   simp only[Z6,ZN]at bM
   obtain⟨⟨hnd,_⟩,qk⟩:=bM
   rw[ZB]at qk
   refine⟨hnd,fun x hx=> ?_⟩
   have:=qk x hx
   simp only[Z6]at this
   refine⟨this.1,ZB.2 fun t ht=> ?_⟩
   have h3:=ZB.1 this.2 t ht
   split at h3
   ·rename_i j e;simp only[e];rw[h3];rfl
   ·rename_i e;simp only[e]
  ·unfold rE at bM
   simp only[Yl,Xz]at bM
   split at bM
   ·cases bM
   ·rename_i k' e
    simp only[Z6,ZN]at bM
    obtain⟨⟨hnd,_⟩,qk⟩:=bM
    rw[ZB]at qk
    have e':=hp4 k' e
    subst e'
    refine⟨hnd,fun x hx=> ?_⟩
    have:=qk x hx
    simp only[Z6]at this
    exact this
 obtain⟨hnd,qk⟩:=aeS
 have eU:∀ i (hi:i<l.length) (ho:i<ops.size),(∀ e∈ops[i].after,Region.binds .any e=true→e.on<i)∧∀ t∈l[i].reads,(∀ c∈l,c.d≠some t)∨(∃ j,∃ hj:j<l.length,l[j].d=some t∧j<i∧∃ e∈ops[i].after,Region.binds .any e=true∧e.on=j)∨
   ∃ j,∃ hj:j<l.length,l[j].d=some t∧i≤k∧k<j:=by
  intro i hi ho
  have hm:((l[i],ops[i]),i)∈(l.zip ops.toList).zipIdx:=by
   rw[List.mem_zipIdx_iff_getElem?]
   simp[List.getElem?_zip_eq_some,hi,ho]
  obtain⟨h1,h2⟩:=qk _ hm
  have hb:∀ e∈ops[i].after,Region.binds .any e=true→e.on<i:=by
   intro e he lS
   have:=Zu.1 h1 e he
   simpa[lS]using this
  refine⟨hb,fun t ht=> ?_⟩
  have h3:=ZB.1 h2 t ht
  split at h3
  ·rename_i j hj
   right
   have jD:j<l.length∧(l.map (·.d))[j]? =some (some t):=by
    obtain⟨i',h5,h6⟩:=LV _ _ hj
    obtain rfl:j=i':=by omega
    exact⟨by have:=(ZK.1 h6).1;simpa using this,h6⟩
   obtain⟨rT,iU⟩:=jD
   rw[YM]at h3
   rcases h3 with h3|h3
   ·left
    rw[Xq]at h3
    obtain⟨m,eT,h4⟩:=h3
    simp only[Z6,beq_iff_eq]at h4
    refine⟨j,rT,by simpa[rT]using iU,?_,ops[i].after[m],X1 eT,h4.1,h4.2⟩
    rw[← h4.2]
    exact hb _ (X1 eT) h4.1
   ·right
    rw[Z6]at h3
    exact⟨j,rT,by simpa[rT]using iU,ZR h3.1,ZR h3.2⟩
  ·rename_i hj
   left
   intro c hc e
   exact LU _ _ hj (by rw[← e];exact YE hc)
 have zx:∀ (XS:List AV) (hX:XS.length=l.length) j (h:j<l.length) t,l[j].d=some t→lk (dH l XS rg) t=XS[j]'(by omega):=fun XS hX j h t ht=>CQ l XS rg hnd hX j h (by omega) t ht
 have zy:∀ (XS:List AV) t,(∀ c∈l,c.d≠some t)→lk (dH l XS rg) t=lk rg t:=fun XS t ht=>xF l XS rg t ht
 have E7:∀ j j' t,(hj:j<l.length)→(dW:j'<l.length)→l[j].d=some t→l[j'].d=some t→j=j':=by
  intro j j' t hj dW da zL
  have pe:=Yw.1 hnd
  rcases XG j j' with h|h|h
  ·exact((pe j j' (by simpa using hj) (by simpa using dW) h) (by simp[da,zL])).elim
  ·exact h
  ·exact((pe j' j (by simpa using dW) (by simpa using hj) h) (by simp[da,zL])).elim
 refine IL uH ?_
 have main:∀ (fuel:Nat) (listed:Array Bool) (a:Act) (w:World),listed.size=ops.size→((List.range ops.size).filter (fun i=> !listed.getD i true)).length≤fuel→
   (∃ M2 kQ XS,∃ hX:XS.length=l.length,M.le M2∧Inv P M2 w0 kQ w∧a.tmps.size=N∧a.defers=Glob.df P∧(∀ t,(∀ j (h:j<l.length),listed.getD j true=true→l[j].d≠some t)→R M2 (lk rg t) (a.tmps.getD t undef))∧
    (∀ j (h:j<l.length) t,listed.getD j true=true→l[j].d=some t→R M2 (XS[j]'(by omega)) (a.tmps.getD t undef))∧
    (∀ j (h:j<l.length),listed.getD j true=true→∀ t∈l[j].reads,∀ i (hi:i<l.length),l[i].d=some t→i<j→listed.getD i true=true)∧
    (((∀ j,k≤j→j<l.length→listed.getD j true=false)∧kQ=σ∧XS.take k=xs)∨
     ((∀ j,j≤k→listed.getD j true=true)∧(∃ ga,Q .normal ga kQ∧∀ i,lk ga i=lk (dH l XS rg) i)∧∀ j (h:j<l.length),k<j→QV P cfg l[j] (dH (l.take j) (XS.take j) rg) kQ (XS[j]'(by omega)))))→
   wpAny P .any ops (jQ P M w0 N Q) fuel listed a w:=by
  have fin:∀ (listed:Array Bool) (a:Act) (w:World),(∀ i,i<ops.size→listed.getD i true=true)→(∃ M2 kQ XS,∃ hX:XS.length=l.length,M.le M2∧Inv P M2 w0 kQ w∧a.tmps.size=N∧a.defers=Glob.df P∧(∀ t,(∀ j (h:j<l.length),listed.getD j true=true→l[j].d≠some t)→R M2 (lk rg t) (a.tmps.getD t undef))∧
    (∀ j (h:j<l.length) t,listed.getD j true=true→l[j].d=some t→R M2 (XS[j]'(by omega)) (a.tmps.getD t undef))∧
    (∀ j (h:j<l.length),listed.getD j true=true→∀ t∈l[j].reads,∀ i (hi:i<l.length),l[i].d=some t→i<j→listed.getD i true=true)∧
    (((∀ j,k≤j→j<l.length→listed.getD j true=false)∧kQ=σ∧XS.take k=xs)∨
     ((∀ j,j≤k→listed.getD j true=true)∧(∃ ga,Q .normal ga kQ∧∀ i,lk ga i=lk (dH l XS rg) i)∧∀ j (h:j<l.length),k<j→QV P cfg l[j] (dH (l.take j) (XS.take j) rg) kQ (XS[j]'(by omega)))))→jQ P M w0 N Q .normal a w:=by
   rintro listed a w cO ⟨M2,kQ,XS,hX,g1,g2,g3,g4,g5,g6,g7,⟨h1,_,_⟩|⟨h1,⟨ga,JL,hF⟩,h3⟩⟩
   ·exfalso
    have:=cO k (by omega)
    rw[h1 k (ZM _) hk]at this
    cases this
   ·refine⟨M2,ga,kQ,g1,g2,fun t=> ?_,g3,g4,JL⟩
    rw[hF]
    by_cases ht:∃ j,∃ h:j<l.length,l[j].d=some t
    ·obtain⟨j,hj,da⟩:=ht
     rw[zx XS hX j hj t da]
     exact g6 j hj t (cO j (by omega)) da
    ·have hn:∀ c∈l,c.d≠some t:=fun c hc e=>by
      obtain⟨j,hj,rfl⟩:=YQ.1 hc
      exact ht ⟨j,hj,e⟩
     rw[zy XS t hn]
     exact g5 t (fun j hj _=>hn _ (Zc hj))
  intro fuel
  induction fuel with
  |zero=>
   intro listed a w aY zH E2
   have cO:∀ i,i<ops.size→listed.getD i true=true:=by
    intro i hi
    cases pb:listed.getD i true with
    |true=>rfl
    |false=>
     have:i∈(List.range ops.size).filter (fun i=> !listed.getD i true):=by simp only[Y5,YT,hi,pb,Xl,and_self]
     have:=List.length_pos_of_mem this
     omega
   refine⟨?_,fin listed a w cO E2⟩
   unfold Region.ready
   rw[Yb]
   intro i hi
   simp[cO i (by simpa using hi)]
  |succ fuel ih=>
   intro listed a w aY zH E2
   refine⟨fun hr=> ?_,fun i hi=> ?_⟩
   ·
    have cO:∀ i,i<ops.size→listed.getD i true=true:=by
     intro i
     induction i using Nat.strongRecOn with
     |_ i K3=>
      intro hi
      cases pb:listed.getD i true with
      |true=>rfl
      |false=>
       have:i∈Region.ready .any ops listed:=by
        unfold Region.ready
        rw[Y5]
        refine⟨by simpa using hi,?_⟩
        simp only[pb,Xl,Bool.true_and,Zy hi,ZD,Zk]
        rw[Zu]
        intro e he
        cases lS:Region.binds .any e with
        |false=>rfl
        |true=>
         have ar:=(eU i (by omega) hi).1 e he lS
         have:=K3 e.on ar (by omega)
         have h2:listed.getD e.on false=true:=by
          rw[ZP]at this ⊢
          rw[Zy (by omega)]at this ⊢
          exact this
         simp[h2]
       rw[hr]at this
       cases this
    exact fin listed a w cO E2
   ·unfold Region.ready at hi
    rw[Y5]at hi
    obtain⟨rR,kH⟩:=hi
    have gn:i<ops.size:=by simpa using rR
    simp only[Z6,YK,Zy gn,ZD,Zk]at kH
    obtain⟨iI,zI⟩:=kH
    have cD:i<l.length:=by omega
    have nO:rC P N ops ops[i]=some l[i]:=by have:=zK i (by simpa using gn) cD;simpa using this
    obtain⟨kG,ar⟩:=Bn nO
    obtain⟨M2,kQ,XS,hX,g1,g2,g3,g4,g5,g6,g7,g8⟩:=E2
    have lW:∀ t∈l[i].reads,∀ j (hj:j<l.length),l[j].d=some t→j<i→listed.getD j true=true:=by
     intro t ht j hj da anZ
     rcases(eU i cD gn).2 t ht with hn|⟨j',dW,zL,iV,e,he,lS,J8⟩|⟨j',dW,zL,lU,fW⟩
     ·exact absurd da (hn _ (Zc hj))
     ·have Cm:=E7 j j' t hj dW da zL
      subst Cm
      have:=Zu.1 zI e he
      simp only[lS,Bool.not_true,Bool.false_or,J8]at this
      rw[ZP]at this ⊢
      rw[Zy (by omega)]at this ⊢
      exact this
     ·have Cm:=E7 j j' t hj dW da zL
      omega
    have oW:ct M2 (Sx.eR l[i].reads (dH (l.take i) (XS.take i) rg)) a:=by
     intro t
     by_cases ht:t∈l[i].reads
     ·rw[yH.Fv ht]
      have ar:∀ j (hj:j<l.length),l[j].d=some t→i<j→lk (dH (l.take i) (XS.take i) rg) t=lk rg t:=fun j hj da gZ=>
       xF _ _ _ _ (fun c hc e=>by
        obtain⟨m,hm,rfl⟩:=YQ.1 hc
        simp only[ZQ]at hm
        rw[Yk]at e
        have:=E7 m j t (by omega) hj e da
        omega)
      rcases(eU i cD gn).2 t ht with hn|⟨j,hj,da,iV,_⟩|⟨j,hj,da,lU,fW⟩
      ·rw[xF _ _ _ _ (fun c hc=>hn c (Yh hc))]
       exact g5 t (fun j hj _=>hn _ (Zc hj))
      ·have e1:(l.take i)[j]'(by simp;omega)=l[j]:=by simp
       have e2:(XS.take i)[j]'(by simp;omega)=XS[j]'(by omega):=by simp
       rw[CQ (l.take i) (XS.take i) rg (by rw[XU];exact hnd.sublist (List.take_sublist _ _)) (by simp[hX]) j (by simp;omega) (by simp;omega) t (by rw[e1];exact da),e2]
       exact g6 j hj t (lW t ht j hj da iV) da
      ·rw[ar j hj da (by omega)]
       refine g5 t (fun j' dW fJ e=> ?_)
       have:=E7 j' j t dW hj e da
       subst this
       rcases g8 with⟨h1,_,_⟩|⟨h1,_,_⟩
       ·rw[h1 j' (by omega) dW]at fJ;cases fJ
       ·rw[h1 i lU]at iI;cases iI
     ·rw[yH.SP ht];exact .any _
    have xb:∀ t∈l[i].reads,lk (dH (l.take i) (XS.take i) rg) t=lk (Sx.eR l[i].reads (dH (l.take i) (XS.take i) rg)) t:=fun t ht=>by
     rw[yH.Fv ht]
    have step:∀ M3 (x:AV) σ' v w' rm (BX:rm.length=l.length),M2.le M3→Inv P M3 w0 σ' w'→R M3 x v→rm[i]'(by omega)=x→(∀ j (hj:j<l.length),listed.getD j true=true→rm[j]'(by omega)=XS[j]'(by omega))→
      (((∀ j,k≤j→j<l.length→(listed.setIfInBounds i true).getD j true=false)∧σ'=σ∧rm.take k=xs)∨
       ((∀ j,j≤k→(listed.setIfInBounds i true).getD j true=true)∧(∃ ga,Q .normal ga σ'∧∀ i,lk ga i=lk (dH l rm rg) i)∧∀ j (h:j<l.length),k<j→QV P cfg l[j] (dH (l.take j) (rm.take j) rg) σ' (rm[j]'(by omega))))→
      wpAny P .any ops (jQ P M w0 N Q) fuel (listed.setIfInBounds i true) (a.put ops[i].dst v) w':=by
     intro M3 x σ' v w' rm BX hM bw hx zU hxj hph
     have rW:∀ j,j≠i→(listed.setIfInBounds i true).getD j true=listed.getD j true:=fun j hj=>by
      rw[ZP,Zb,Z5 (fun e=>hj e.symm),ZP]
     have Cz:(listed.setIfInBounds i true).getD i true=true:=by
      rw[ZP,Zb];simp[aY,gn]
     refine ih _ _ _ (by simp[aY]) ?_ ⟨M3,σ',rm,BX,g1.trans hM,bw,by rw[Act.size_put];exact g3,by rw[Act.Bt];exact g4,fun t ht=> ?_,fun j hj t kI da=> ?_,fun j hj kI t ht j' dW da QF=> ?_,hph⟩
     ·have:=filter_lt (fun i=> !listed.getD i true) (fun k=> !(listed.setIfInBounds i true).getD k true) (List.range ops.size) (fun k _ hk=>by
       simp only[YK]at hk ⊢
       by_cases QM:k=i
       ·subst QM;rw[Cz]at hk;cases hk
       ·rw[rW k QM]at hk;exact hk) ⟨i,rR,by simpa using iI,by simp only[Bool.not_eq_false'];exact Cz⟩
      omega
     ·have aH:ops[i].dst≠some t:=by rw[← kG];exact ht i cD Cz
      have:=(g5 t (fun j hj hl=>ht j hj (by by_cases e:j=i;·subst e;exact Cz
                                            ·rw[rW j e];exact hl))).mono hM
      have e:(a.put ops[i].dst v).tmps.getD t undef=a.tmps.getD t undef:=by
       cases hd:ops[i].dst with
       |none=>rfl
       |some u=>
        have xt:u≠t:=fun e=>aH (by rw[hd,e])
        simp[Act.put,YP xt]
      rw[e];exact this
     ·by_cases gZ:j=i
      ·subst gZ
       have hd:ops[j].dst=some t:=by rw[← kG];exact da
       have KP:t<a.tmps.size:=by rw[g3];exact ar t da
       have e:(a.put ops[j].dst v).tmps.getD t undef=v:=by simp[hd,Act.put,KP]
       rw[e,zU];exact hx
      ·have EX:listed.getD j true=true:=by rw[← rW j gZ];exact kI
       have:=(g6 j hj t EX da).mono hM
       have e:(a.put ops[i].dst v).tmps.getD t undef=a.tmps.getD t undef:=by
        cases hd:ops[i].dst with
        |none=>rfl
        |some u=>
         have xt:u≠t:=fun e=>by
          subst e
          have h1:l[i].d=some u:=kG.trans hd
          have pe:=Yw.1 hnd
          rcases XG i j with h|h|h
          ·exact pe i j (by simpa using cD) (by simpa using hj) h (by simp[h1,da])
          ·exact gZ h.symm
          ·exact pe j i (by simpa using hj) (by simpa using cD) h (by simp[h1,da])
         simp[Act.put,YP xt]
       rw[e,hxj j hj EX];exact this
     ·by_cases QH:j'=i
      ·subst QH;exact Cz
      ·rw[rW j' QH]
       by_cases gZ:j=i
       ·subst gZ;exact lW t ht j' dW da QF
       ·rw[rW j gZ]at kI
        exact g7 j hj kI t ht j' dW da QF
    unfold wpOp
    simp only[Zy gn]
    rcases g8 with⟨h1,rfl,h3⟩|⟨h1,h2,h3⟩
    ·
     have dA:∀ j (hj:j<k),XS[j]'(by omega)=xs[j]'(by omega):=fun j hj=>by subst h3;simp
     rcases XG i k with iw|iw|iw
     ·have Cv:QV P cfg l[i] (dH (l.take i) (XS.take i) rg) kQ (XS[i]'(by omega)):=by
       have:=hQ1 i (by omega) (by omega)
       rw[Ra i (by omega),aeL i (by omega) cD,dA i iw]
       have e:XS.take i=xs.take i:=by rw[← h3,List.take_take,X0 (by omega)]
       rw[e];exact this
      have hq:=wj xb Cv
      refine wU (K:=fun y σ'=>y=XS[i]'(by omega)∧σ'=kQ) (E:=fun _ _=>False) nO hq g2 oW ⟨?_,fun _ _ _ _ _ _ h=>h.elim⟩
      rintro M3 x σ' v w' hM bw hx ⟨rfl,rfl⟩
      refine step M3 _ _ v w' XS hX hM bw hx rfl (fun _ _ _=>rfl) (.inl ⟨fun j hj jD=> ?_,rfl,h3⟩)
      rw[ZP,Zb,Z5 (by omega),← ZP]
      exact h1 j hj jD
     ·
      subst iw
      have cO:∀ d j,i-j=d→j<i→listed.getD j true=true:=by
       intro d
       induction d using Nat.strongRecOn with
       |_ d ihd=>
        intro j hd hj
        obtain⟨j',Cm,anY,pg⟩:=akt dM hj (by omega)
        obtain⟨ha,hb,t,E5,E6⟩:=Uf pg
        by_cases e:j'=i
        ·subst e;exact lW t E6 j ha E5 Cm
        ·exact g7 j' hb (ihd (i-j') (by omega) j' rfl (by omega)) t E6 j ha E5 Cm
      have hv:bY P cfg l[i] (fun x σ'=>DE P cfg (fun ak=>Q .normal ak σ') l2 (bj s.d x (dH l1 xs rg)) σ') (fun _ _=>False) (Sx.eR l[i].reads (dH (l.take i) (XS.take i) rg)) kQ:=by
       have e0:l.take i=l1:=by rw[Ra i (ZM _),Zq (by omega)]
       rw[e0,h3]at xb ⊢
       rw[Cp]at xb ⊢
       unfold bY
       rw[mW]
       dsimp only
       rw[← qW (fun t ht=>xb t (ZI _ ht))]
       exact B7
      refine wU (E:=fun _ _=>False) nO hv g2 oW ⟨?_,fun _ _ _ _ _ _ h=>h.elim⟩
      rintro M3 x σ' v w' hM bw hx ⟨ys,hyl,⟨ga,JL,hF⟩,hQ2⟩
      have rU:=aeR
      have KU:xs.length=i:=by omega
      have BX:(xs++x::ys).length=l.length:=by simp[dp,hyl,rU];omega
      refine step M3 x σ' v w' (xs++x::ys) BX hM bw hx (by rw[Yv (by omega)];simp[KU]) (fun j hj kI=> ?_) (.inr ⟨fun j hj=> ?_,⟨ga,JL,fun t=> ?_⟩,fun j hj QN=> ?_⟩)
      ·have iV:j<i:=by
        rcases YO j i with h|h
        ·exact h
        ·rw[h1 j h hj]at kI;cases kI
       rw[dA j iV,Yj (by omega)]
      ·by_cases e:j=i
       ·subst e;rw[ZP,Zb];simp[aY,gn]
       ·rw[ZP,Zb,Z5 (fun h=>e h.symm),← ZP]
        exact cO _ j rfl (by omega)
      ·rw[hF,← hL,C0 l1 (s::l2) xs (x::ys) rg (by omega)];rfl
      ·have iU:j-i-1<l2.length:=by omega
       have:=hQ2 (j-i-1) iU (by omega)
       have e1:l[j]=l2[j-i-1]:=by
        simp only[← hL]
        rw[Yv (by omega)]
        simp only[hK]
        rw[List.getElem_cons,dif_neg (by omega)]
       have e2:(xs++x::ys)[j]'(by rw[BX];exact hj)=ys[j-i-1]'(by omega):=by
        rw[Yv (by omega)]
        simp only[KU]
        rw[List.getElem_cons,dif_neg (by omega)]
       have e3:l.take j=l1++s::l2.take (j-i-1):=by
        rw[← hL,List.take_append,Zq (by omega),hK]
        congr 1
        obtain⟨m,hm⟩:∃ m,j-i=m+1:=⟨j-i-1,by omega⟩
        rw[hm];rfl
       have e4:(xs++x::ys).take j=xs++x::ys.take (j-i-1):=by
        rw[List.take_append,Zq (by omega),KU]
        congr 1
        obtain⟨m,hm⟩:∃ m,j-i=m+1:=⟨j-i-1,by omega⟩
        rw[hm];rfl
       rw[e1,e2,e3,e4,C0 l1 _ xs _ rg (by omega)]
       exact this
     ·exfalso
      obtain⟨j',rT,iU,pg⟩:=aks dM iw cD
      obtain⟨ha,hb,t,E5,E6⟩:=Uf pg
      have:=lW t E6 j' ha E5 iU
      rw[h1 j' rT ha]at this
      cases this
    ·
     have iw:k<i:=by
      rcases YO k i with h|h
      ·exact h
      ·rw[h1 i h]at iI;cases iI
     have hq:=wj xb (h3 i cD iw)
     refine wU (K:=fun y σ'=>y=XS[i]'(by omega)∧σ'=kQ) (E:=fun _ _=>False) nO hq g2 oW ⟨?_,fun _ _ _ _ _ _ h=>h.elim⟩
     rintro M3 x σ' v w' hM bw hx ⟨rfl,rfl⟩
     refine step M3 _ _ v w' XS hX hM bw hx rfl (fun _ _ _=>rfl) (.inr ⟨fun j hj=> ?_,h2,h3⟩)
     rw[ZP,Zb,Z5 (by omega),← ZP]
     exact h1 j hj
 refine main ops.size _ a _ (by simp) ?_ ⟨M,σ,xs++List.replicate (l.length-k) .any,by simp;omega,Mem.le.refl _,hI.fG,hN,hD,fun t _=>hR t,fun j hj t kI _=> ?_,fun j hj kI=> ?_,.inl ⟨fun j _ hj=> ?_,rfl,by rw[Y1 (by omega),Zq (by omega)]⟩⟩
 ·exact ZG (Xt _ _) (by simp)
 ·exfalso
  have xf:j<ops.size:=by omega
  simp[xf]at kI
 ·exfalso
  have xf:j<ops.size:=by omega
  simp[xf]at kI
 ·have xf:j<ops.size:=by omega
  simp[xf]
theorem M5{K:af→Store→Prop}:∀ (l:List CI) (rg ef:af),(∀ i,lk rg i=lk ef i)→(∀ c∈l,c.op.cls≤1∨(c.op.cls=4∧c.g=none))→bG P cfg [] (bare l) K rg σ→
  ∃ xs:List AV,xs.length=l.length∧(∃ ak,K ak σ∧∀ i,lk ak i=lk (dH l xs ef) i)∧∀ i (h:i<l.length) (h':i<xs.length),QV P cfg l[i] (dH (l.take i) (xs.take i) ef) σ xs[i]:=AK
theorem NG{l1 l2:List CI}{s:CI}{f:FuncId}{args:List Operand}{Q:Exit→af→Store→Prop}(cfg:Nat→Nat)(nV:pC (l1++s::l2) 0=none)(hs:s.op= .call f args)(dM:ov (l1++s::l2) l1.length=true)(mW:s.g=none)
  (h:bG P cfg [] (bare l1) (fun bh aK=>∃ R:eQ→Store→Prop,Spec P f (aE bh args) aK R∧(∀ x aC,R (.ret x) aC→bG P cfg [] (bare l2) (Cl (Q .normal)) (bj s.d x bh) aC)∧∀ ch aC,R (.gL ch) aC→False) rg σ):
  SW P N (.dF (l1++s::l2)) Q rg σ:=by
 refine A5 (ND cfg (.inr nV) dM mW fun hc=> ?_)
 have w8:=AL l1 rg (fun c h=>hc c (by simp[h])) h
 obtain⟨xs,h1,⟨bh,⟨R,hR,hK,hE⟩,h3⟩,h4⟩:=M5 l1 rg rg (fun _=>rfl) (fun c h=>hc c (by simp[h])) h
 refine⟨xs,h1,h4,?_,w8⟩
 rw[← qW (rg:=bh) (fun t _=>h3 t),hs]
 simp only[al]
 refine⟨R,hR,fun x σ' hr=> ?_,fun ch σ' hr=>hE ch σ' hr⟩
 exact AK l2 _ _ (sk h3 s.d x) (fun c h=>hc c (by simp[h])) (hK x σ' hr)
end
section
variable {P:Program}[Glob P]{N:Nat}{cfg:Nat→Nat}{Q:Exit→af→Store→Prop}{rg:af}{σ:Store}{k:List Fr}{xr:XR}
def AA(d:Nat):List CI→Option (List CI×CI×List CI)
 |[]=>none
 |c::l=>bif (match c.d with|some e=>Nat.beq e d|none=>false)then some ([],c,l)else match AA d l with
  |some (a,s,b)=>some (c::a,s,b)
  |none=>none
theorem Mt{d:Nat}:∀ {l a b:List CI} {s:CI},AA d l=some (a,s,b)→l=a++s::b
 |[],_,_,_,h=>by cases h
 |c::l,a,b,s,h=>by
  simp only[AA]at h
  generalize (match c.d with|some e=>Nat.beq e d|none=>false)=q at h
  cases q with
  |true=>grind
  |false=>
   cases h2:AA d l with
   |none=>grind
   |some p=>rw[h2]at h;cases h;rw[Mt h2];rfl
def wF:List CI→Option (List CI×CI×List CI)
 |[]=>none
 |c::l=>bif Nat.beq c.op.cls 4 then some ([],c,l)else match wF l with
  |some (a,s,b)=>some (c::a,s,b)
  |none=>none
theorem IH:∀ {l a b:List CI} {s:CI},wF l=some (a,s,b)→l=a++s::b∧s.op.cls=4
 |[],_,_,_,h=>by cases h
 |c::l,a,b,s,h=>by
  simp only[wF]at h
  cases q:Nat.beq c.op.cls 4 with
  |true=>simp_all
  |false=>
   rw[q]at h
   cases h2:wF l with
   |none=>grind
   |some p=>
    obtain⟨e,e2⟩:=IH h2
    grind
theorem alI{P:Program}[Glob P]{cfg:Nat→Nat}{d:Option Nat}{rg:af}{σ:Store}{K K':AV→Store→Prop}{E E':List PanicEntry→Store→Prop}{op:aw}(h4:op.cls=4)(hk:∀ x σ',K x σ'→K' x σ')(h:al P cfg d rg σ K E op):al P cfg d rg σ K' E' op:=by
 cases op<;>simp only[aw.cls,reduceCtorEq,Nat.reduceEqDiff,Nat.zero_ne_add_one]at h4
 ·simp only[al]at h ⊢
  split at h
  ·grind
  ·grind
  ·grind
  grind
 ·exact gb.mono h hk
def yF(P:Program)[Glob P](cfg:Nat→Nat)(l2:List CI)(K:af→Store→Prop)(rg:af)(σ:Store):Prop:=bG P cfg [] (bare l2) (Cl K) rg σ
def tL(P:Program)[Glob P](cfg:Nat→Nat)(K:af→Store→Prop)(s:CI)(l2:List CI)(rg:af)(σ:Store):Prop:=dD P cfg [s] (yF P cfg l2 K) (fun _ _=>False) rg σ
theorem NF{P:Program}[Glob P]{N:Nat}{l1 l2:List CI}{s:CI}{Q:Exit→af→Store→Prop}{rg:af}{σ:Store}(cfg:Nat→Nat)(h4:s.op.cls=4)(dM:ov (l1++s::l2) l1.length=true)(mW:s.g=none)
  (h:bG P cfg [] (bare l1) (tL P cfg (Q .normal) s l2) rg σ):SW P N (.dF (l1++s::l2)) Q rg σ:=by
 refine A5 (ND cfg (.inl h4) dM mW fun hc=> ?_)
 have w8:=AL l1 rg (fun c h=>hc c (by simp[h])) h
 obtain⟨xs,h1,⟨bh,hM,h3⟩,tx⟩:=M5 l1 rg rg (fun _=>rfl) (fun c h=>hc c (by simp[h])) h
 refine⟨xs,h1,tx,?_,w8⟩
 rw[← qW (rg:=bh) (fun t _=>h3 t)]
 simp only[tL,dD,bY,mW]at hM
 refine alI h4 (fun x σ' hx=> ?_) hM
 exact AK l2 _ _ (sk h3 s.d x) (fun c h=>hc c (by simp[h])) hx
theorem abg{l l1 l2:List CI}{s:CI}(hl:wF l=some (l1,s,l2))(dM:ov l l1.length=true)(mW:s.g=none)(hx:toXO rg=some xr)
  (h:VY P cfg [] (bare l1) (tL P cfg (FK P N cfg Q .normal k) s l2) xr σ):WK P N cfg Q (.dF l) k rg σ:=by
 obtain⟨e,h4⟩:=IH hl
 subst e
 refine⟨WA.mono (Q:=fun e=>FK P N cfg Q e k) ⟨rfl,NF cfg h4 dM mW ?_⟩ fun _ _ _ h=>h.h⟩
 have:=h.h
 rw[← vL hx,tY]at this
 grind
theorem aaW{K:af→Store→Prop}{s:CI}{l2:List CI}(h:VX P cfg [s] (yF P cfg l2 K) (fun _ _=>False) xr σ):VY P cfg [] [] (tL P cfg K s l2) xr σ:=⟨h.h⟩
theorem aax{K:af→Store→Prop}{E:List PanicEntry→Store→Prop}{l2:List CI}(h:VY P cfg [] (bare l2) (Cl K) xr σ):VX P cfg [] (yF P cfg l2 K) E xr σ:=⟨h.h⟩
end
end Go.Sx
