/-
  A region of open order with one call that turns the store: what the call reads, the call, what reads it.
-/
import Derived.Test.YthdeaajdmdmfnaaGreatDoorSxX
set_option linter.unusedVariables false
set_option linter.unusedSimpArgs false
set_option linter.unusedSectionVars false
namespace Go.Sx
open Go.RowKit
def yg(l:List CI)(a b:Nat):Bool:=match l[a]?,l[b]? with
 |some x,some y=>match x.d with
  |some t=>y.reads.elem t
  |none=>false
 |_,_=>false
def q7(l:List CI)(k:Nat):Bool:=(List.range l.length).all fun j=>
 bif Nat.blt j k then(List.range (k+1)).any fun i=>Nat.blt j i && yg l j i
 else(Nat.beq j k || (List.range j).any fun i=>Nat.ble k i && yg l i j)
theorem RF{l:List CI}{a b:Nat}(h:yg l a b=true):∃ (ha:a<l.length) (hb:b<l.length) (t:Nat),l[a].d=some t∧t∈l[b].reads:=by
 unfold yg at h
 grind
theorem air{l:List CI}{k j:Nat}(h:q7 l k=true)(hj:j<k)(hl:j<l.length):∃ i,j<i∧i≤k∧yg l j i=true:=by
 have:=Zz.1 h j (by grind)
 have e:Nat.blt j k=true:=Xj hj
 rw[e]at this
 obtain⟨i,h1,h2⟩:=Yp.1 this
 rw[Z8]at h2
 exact⟨i,ZF h2.1,by grind,h2.2⟩
theorem aiq{l:List CI}{k j:Nat}(h:q7 l k=true)(hj:k<j)(hl:j<l.length):∃ i,k≤i∧i<j∧yg l i j=true:=by
 have:=Zz.1 h j (by grind)
 have e:Nat.blt j k=false:=by
  cases e:Nat.blt j k with
  |false=>rfl
  |true=>have:j+1≤k:=ZF e;omega
 have e2:Nat.beq j k=false:=by
  cases e:Nat.beq j k with
  |false=>rfl
  |true=>have:=Z0 e;omega
 rw[e,e2]at this
 obtain⟨i,h1,h2⟩:=Yp.1 this
 rw[Z8]at h2
 exact⟨i,ZF h2.1,Y2.1 h1,h2.2⟩
theorem A8:∀ (l l':List CI) (xs ys:List AV) (rg:ag),xs.length=l.length→dA (l++l') (xs++ys) rg=dA l' ys (dA l xs rg)
 |[],l',[],ys,rg,_=>by rfl
 |c::l,l',x::xs,ys,rg,h=>by
  exact A8 l l' xs ys _ (by grind)
 |[],_,_::_,_,_,h=>by grind
 |_::_,_,[],_,_,h=>by grind
section
variable {P:Program}[Glob P]{M:Mem}{w0:Base}{w:World}{σ:Store}{rg:ag}{a:Act}{cfg:Nat→Nat}{N:Nat}
theorem Lx{l1 l2:List CI}{s:CI}{Q:Exit→ag→Store→Prop}(cfg:Nat→Nat)(pE:s.op.cls=4∨pQ (l1++s::l2) 0=none)(dE:q7 (l1++s::l2) l1.length=true)(lY:s.g=none)
  (h:(∀ c∈l1++s::l2,c.op.cls≤1∨(c.op.cls=4∧c.g=none))→∃ xs:List AV,xs.length=l1.length∧(∀ i (h:i<l1.length) (h':i<xs.length),QV P cfg l1[i] (dA (l1.take i) (xs.take i) rg) σ xs[i])∧
   aj P cfg s.d (dA l1 xs rg) σ (fun x σ'=>BD P cfg (fun ak=>Q .normal ak σ') l2 (bz s.d x (dA l1 xs rg)) σ') (fun _ _=>False) s.op∧(∀ c∈l1,c.op.cls≤1)):
  SW P N (.c8 (l1++s::l2)) Q rg σ:=by
 intro c hc M w0 a w hI hR hN hD
 obtain⟨id,ops,rfl,hl,cw,sE⟩:=eX hc
 obtain⟨hlen,sF⟩:=Ch ops.toList _ hl
 obtain⟨xs,cQ,hQ1,zW,uN⟩:=h (ML cw)
 clear h
 obtain⟨k,hK⟩:∃ k,l1.length=k:=⟨_,rfl⟩
 have Af:k<(l1++s::l2).length:=by simp[hK]
 have OG:(l1++s::l2)[k]=s:=by simp[← hK]
 have acF:∀ i,i≤k→(l1++s::l2).take i=l1.take i:=fun i hi=>by rw[Za (by omega)]
 have Ou:∀ i (h:i<k) (h':i<(l1++s::l2).length),(l1++s::l2)[i]=l1[i]'(by omega):=fun i h h'=>by simp[hK,h]
 have ach:(l1++s::l2).length=k+(1+l2.length):=by simp[hK];omega
 have hp4:∀ k',pQ (l1++s::l2) 0=some k'→k'=k:=by
  intro k' h4
  rcases pE with pE|pE
  case inr=>rw[pE]at h4;cases h4
  obtain⟨i,hi,e,h4,IB⟩:=JT _ _ h4
  rcases X4 i k with h|h|h
  ·exfalso
   rw[Ou i h hi]at h4
   have:=uN _ (Zf (show i<l1.length by omega))
   omega
  ·omega
  ·exfalso
   exact IB k h Af (by rw[OG];exact pE)
 rw[hK]at dE
 generalize hL:l1++s::l2=l at *
 have hk:=Af
 have Ai:=OG
 have O1:=acF
 have ab9:=Ou
 have sI:l.length=ops.size:=by simpa using hlen
 have aci:(l.map (·.d)).Nodup∧∀ x∈(l.zip ops.toList).zipIdx,(x.1.2.after.all fun e=> !Region.binds .any e || decide (e.on<x.2))=true∧
   (x.1.1.reads.all fun t=>match posOf t (l.map (·.d)) 0 with
    |some j=>(x.1.2.after.any fun e=>Region.binds .any e && e.on == j) || (Nat.ble x.2 k && Nat.blt k j)
    |none=>true)=true:=by
  rcases cw with cw|cw
  ·unfold qn at cw
   simp only[Y1,XU]at cw
   simp only[Z8,ZR]at cw
   obtain⟨⟨hnd,_⟩,pn⟩:=cw
   rw[Zz]at pn
   refine⟨hnd,fun x hx=> ?_⟩
   have:=pn x hx
   simp only[Z8]at this
   refine⟨this.1,Zz.2 fun t ht=> ?_⟩
   have h3:=Zz.1 this.2 t ht
   split at h3
   ·rename_i j e;simp only[e];rw[h3];rfl
   ·rename_i e;simp only[e]
  ·unfold qo at cw
   simp only[Y1,XU]at cw
   split at cw
   ·cases cw
   ·rename_i k' e
    simp only[Z8,ZR]at cw
    obtain⟨⟨hnd,_⟩,pn⟩:=cw
    rw[Zz]at pn
    have e':=hp4 k' e
    subst e'
    refine⟨hnd,fun x hx=> ?_⟩
    have:=pn x hx
    simp only[Z8]at this
    exact this
 obtain⟨hnd,pn⟩:=aci
 have fb:∀ i (hi:i<l.length) (ho:i<ops.size),(∀ e∈ops[i].after,Region.binds .any e=true→e.on<i)∧∀ t∈l[i].reads,(∀ c∈l,c.d≠some t)∨(∃ j,∃ hj:j<l.length,l[j].d=some t∧j<i∧∃ e∈ops[i].after,Region.binds .any e=true∧e.on=j)∨
   ∃ j,∃ hj:j<l.length,l[j].d=some t∧i≤k∧k<j:=by
  intro i hi ho
  have hm:((l[i],ops[i]),i)∈(l.zip ops.toList).zipIdx:=by
   rw[List.mem_zipIdx_iff_getElem?]
   simp[List.getElem?_zip_eq_some,hi,ho]
  obtain⟨h1,h2⟩:=pn _ hm
  have hb:∀ e∈ops[i].after,Region.binds .any e=true→e.on<i:=by
   intro e he kU
   have:=ZB.1 h1 e he
   simpa[kU]using this
  refine⟨hb,fun t ht=> ?_⟩
  have h3:=Zz.1 h2 t ht
  split at h3
  ·rename_i j hj
   right
   have kr:j<l.length∧(l.map (·.d))[j]? =some (some t):=by
    obtain⟨i',h5,h6⟩:=JV _ _ hj
    obtain rfl:j=i':=by omega
    exact⟨by have:=(ZE.1 h6).1;simpa using this,h6⟩
   obtain⟨qz,ik⟩:=kr
   rw[YO]at h3
   rcases h3 with h3|h3
   ·left
    rw[XH]at h3
    obtain⟨m,ew,h4⟩:=h3
    simp only[Z8,beq_iff_eq]at h4
    refine⟨j,qz,by simpa[qz]using ik,?_,ops[i].after[m],Yc ew,h4.1,h4.2⟩
    rw[← h4.2]
    exact hb _ (Yc ew) h4.1
   ·right
    rw[Z8]at h3
    exact⟨j,qz,by simpa[qz]using ik,ZF h3.1,ZF h3.2⟩
  ·rename_i hj
   left
   intro c hc e
   exact JU _ _ hj (by rw[← e];exact Yk hc)
 have xn:∀ (XS:List AV) (hX:XS.length=l.length) j (h:j<l.length) t,l[j].d=some t→lk (dA l XS rg) t=XS[j]'(by omega):=fun XS hX j h t ht=>AU l XS rg hnd hX j h (by omega) t ht
 have xo:∀ (XS:List AV) t,(∀ c∈l,c.d≠some t)→lk (dA l XS rg) t=lk rg t:=fun XS t ht=>vx l XS rg t ht
 have Dx:∀ j j' t,(hj:j<l.length)→(dK:j'<l.length)→l[j].d=some t→l[j'].d=some t→j=j':=by
  intro j j' t hj dK cH xA
  have oe:=X5.1 hnd
  rcases X4 j j' with h|h|h
  ·exact((oe j j' (by simpa using hj) (by simpa using dK) h) (by simp[cH,xA])).elim
  ·exact h
  ·exact((oe j' j (by simpa using dK) (by simpa using hj) h) (by simp[cH,xA])).elim
 refine F8 sE ?_
 have main:∀ (fuel:Nat) (listed:Array Bool) (a:Act) (w:World),listed.size=ops.size→((List.range ops.size).filter (fun i=> !listed.getD i true)).length≤fuel→
   (∃ M2 jZ XS,∃ hX:XS.length=l.length,M.le M2∧Inv P M2 w0 jZ w∧a.tmps.size=N∧a.defers=Glob.df P∧(∀ t,(∀ j (h:j<l.length),listed.getD j true=true→l[j].d≠some t)→R M2 (lk rg t) (a.tmps.getD t undef))∧
    (∀ j (h:j<l.length) t,listed.getD j true=true→l[j].d=some t→R M2 (XS[j]'(by omega)) (a.tmps.getD t undef))∧
    (∀ j (h:j<l.length),listed.getD j true=true→∀ t∈l[j].reads,∀ i (hi:i<l.length),l[i].d=some t→i<j→listed.getD i true=true)∧
    (((∀ j,k≤j→j<l.length→listed.getD j true=false)∧jZ=σ∧XS.take k=xs)∨
     ((∀ j,j≤k→listed.getD j true=true)∧(∃ fg,Q .normal fg jZ∧∀ i,lk fg i=lk (dA l XS rg) i)∧∀ j (h:j<l.length),k<j→QV P cfg l[j] (dA (l.take j) (XS.take j) rg) jZ (XS[j]'(by omega)))))→
   wpAny P .any ops (jh P M w0 N Q) fuel listed a w:=by
  have fin:∀ (listed:Array Bool) (a:Act) (w:World),(∀ i,i<ops.size→listed.getD i true=true)→(∃ M2 jZ XS,∃ hX:XS.length=l.length,M.le M2∧Inv P M2 w0 jZ w∧a.tmps.size=N∧a.defers=Glob.df P∧(∀ t,(∀ j (h:j<l.length),listed.getD j true=true→l[j].d≠some t)→R M2 (lk rg t) (a.tmps.getD t undef))∧
    (∀ j (h:j<l.length) t,listed.getD j true=true→l[j].d=some t→R M2 (XS[j]'(by omega)) (a.tmps.getD t undef))∧
    (∀ j (h:j<l.length),listed.getD j true=true→∀ t∈l[j].reads,∀ i (hi:i<l.length),l[i].d=some t→i<j→listed.getD i true=true)∧
    (((∀ j,k≤j→j<l.length→listed.getD j true=false)∧jZ=σ∧XS.take k=xs)∨
     ((∀ j,j≤k→listed.getD j true=true)∧(∃ fg,Q .normal fg jZ∧∀ i,lk fg i=lk (dA l XS rg) i)∧∀ j (h:j<l.length),k<j→QV P cfg l[j] (dA (l.take j) (XS.take j) rg) jZ (XS[j]'(by omega)))))→jh P M w0 N Q .normal a w:=by
   rintro listed a w cV ⟨M2,jZ,XS,hX,g1,g2,g3,g4,g5,g6,g7,⟨h1,_,_⟩|⟨h1,⟨fg,Hm,hF⟩,h3⟩⟩
   ·exfalso
    have:=cV k (by omega)
    rw[h1 k (ZX _) hk]at this
    cases this
   ·refine⟨M2,fg,jZ,g1,g2,fun t=> ?_,g3,g4,Hm⟩
    rw[hF]
    by_cases ht:∃ j,∃ h:j<l.length,l[j].d=some t
    ·obtain⟨j,hj,cH⟩:=ht
     rw[xn XS hX j hj t cH]
     exact g6 j hj t (cV j (by omega)) cH
    ·have hn:∀ c∈l,c.d≠some t:=fun c hc e=>by
      obtain⟨j,hj,rfl⟩:=YR.1 hc
      exact ht ⟨j,hj,e⟩
     rw[xo XS t hn]
     exact g5 t (fun j hj _=>hn _ (Zf hj))
  intro fuel
  induction fuel with
  |zero=>
   intro listed a w bg xv Dr
   have cV:∀ i,i<ops.size→listed.getD i true=true:=by
    intro i hi
    cases oa:listed.getD i true with
    |true=>rfl
    |false=>
     have:i∈(List.range ops.size).filter (fun i=> !listed.getD i true):=by simp only[Ze,Y2,hi,oa,XC,and_self]
     have:=List.length_pos_of_mem this
     omega
   refine⟨?_,fin listed a w cV Dr⟩
   unfold Region.ready
   rw[Yl]
   intro i hi
   simp[cV i (by simpa using hi)]
  |succ fuel ih=>
   intro listed a w bg xv Dr
   refine⟨fun hr=> ?_,fun i hi=> ?_⟩
   ·
    have cV:∀ i,i<ops.size→listed.getD i true=true:=by
     intro i
     induction i using Nat.strongRecOn with
     |_ i Jf=>
      intro hi
      cases oa:listed.getD i true with
      |true=>rfl
      |false=>
       have:i∈Region.ready .any ops listed:=by
        unfold Region.ready
        rw[Ze]
        refine⟨by simpa using hi,?_⟩
        simp only[oa,XC,Bool.true_and,ZN hi,ZJ,Zp]
        rw[ZB]
        intro e he
        cases kU:Region.binds .any e with
        |false=>rfl
        |true=>
         have aw:=(fb i (by omega) hi).1 e he kU
         have:=Jf e.on aw (by omega)
         have h2:listed.getD e.on false=true:=by
          rw[ZT]at this ⊢
          rw[ZN (by omega)]at this ⊢
          exact this
         simp[h2]
       rw[hr]at this
       cases this
    exact fin listed a w cV Dr
   ·unfold Region.ready at hi
    rw[Ze]at hi
    obtain⟨qx,kq⟩:=hi
    have fm:i<ops.size:=by simpa using qx
    simp only[Z8,YF,ZN fm,ZJ,Zp]at kq
    obtain⟨gJ,xy⟩:=kq
    have bW:i<l.length:=by omega
    have mR:qk P N ops ops[i]=some l[i]:=by have:=sF i (by simpa using fm) bW;simpa using this
    obtain⟨ko,aw⟩:=zi mR
    obtain⟨M2,jZ,XS,hX,g1,g2,g3,g4,g5,g6,g7,g8⟩:=Dr
    have kW:∀ t∈l[i].reads,∀ j (hj:j<l.length),l[j].d=some t→j<i→listed.getD j true=true:=by
     intro t ht j hj cH aj5
     rcases(fb i bW fm).2 t ht with hn|⟨j',dK,xA,il,e,he,kU,Ig⟩|⟨j',dK,xA,ku,eZ⟩
     ·exact absurd cH (hn _ (Zf hj))
     ·have Ae:=Dx j j' t hj dK cH xA
      subst Ae
      have:=ZB.1 xy e he
      simp only[kU,Bool.not_true,Bool.false_or,Ig]at this
      rw[ZT]at this ⊢
      rw[ZN (by omega)]at this ⊢
      exact this
     ·have Ae:=Dx j j' t hj dK cH xA
      omega
    have nQ:bQ M2 (Sx.ep l[i].reads (dA (l.take i) (XS.take i) rg)) a:=by
     intro t
     by_cases ht:t∈l[i].reads
     ·rw[wH.DP ht]
      have aw:∀ j (hj:j<l.length),l[j].d=some t→i<j→lk (dA (l.take i) (XS.take i) rg) t=lk rg t:=fun j hj cH gd=>
       vx _ _ _ _ (fun c hc e=>by
        obtain⟨m,hm,rfl⟩:=YR.1 hc
        simp only[Zx]at hm
        rw[Xo]at e
        have:=Dx m j t (by omega) hj e cH
        omega)
      rcases(fb i bW fm).2 t ht with hn|⟨j,hj,cH,il,_⟩|⟨j,hj,cH,ku,eZ⟩
      ·rw[vx _ _ _ _ (fun c hc=>hn c (YS hc))]
       exact g5 t (fun j hj _=>hn _ (Zf hj))
      ·have e1:(l.take i)[j]'(by simp;omega)=l[j]:=by simp
       have e2:(XS.take i)[j]'(by simp;omega)=XS[j]'(by omega):=by simp
       rw[AU (l.take i) (XS.take i) rg (by rw[Yu];exact hnd.sublist (List.take_sublist _ _)) (by simp[hX]) j (by simp;omega) (by simp;omega) t (by rw[e1];exact cH),e2]
       exact g6 j hj t (kW t ht j hj cH il) cH
      ·rw[aw j hj cH (by omega)]
       refine g5 t (fun j' dK fq e=> ?_)
       have:=Dx j' j t dK hj e cH
       subst this
       rcases g8 with⟨h1,_,_⟩|⟨h1,_,_⟩
       ·rw[h1 j' (by omega) dK]at fq;cases fq
       ·rw[h1 i ku]at gJ;cases gJ
     ·rw[wH.Qo ht];exact .any _
    have uS:∀ t∈l[i].reads,lk (dA (l.take i) (XS.take i) rg) t=lk (Sx.ep l[i].reads (dA (l.take i) (XS.take i) rg)) t:=fun t ht=>by
     rw[wH.DP ht]
    have step:∀ M3 (x:AV) σ' v w' qf (zS:qf.length=l.length),M2.le M3→Inv P M3 w0 σ' w'→R M3 x v→qf[i]'(by omega)=x→(∀ j (hj:j<l.length),listed.getD j true=true→qf[j]'(by omega)=XS[j]'(by omega))→
      (((∀ j,k≤j→j<l.length→(listed.setIfInBounds i true).getD j true=false)∧σ'=σ∧qf.take k=xs)∨
       ((∀ j,j≤k→(listed.setIfInBounds i true).getD j true=true)∧(∃ fg,Q .normal fg σ'∧∀ i,lk fg i=lk (dA l qf rg) i)∧∀ j (h:j<l.length),k<j→QV P cfg l[j] (dA (l.take j) (qf.take j) rg) σ' (qf[j]'(by omega))))→
      wpAny P .any ops (jh P M w0 N Q) fuel (listed.setIfInBounds i true) (a.put ops[i].dst v) w':=by
     intro M3 x σ' v w' qf zS hM bp hx xR hxj hph
     have Aq:∀ j,j≠i→(listed.setIfInBounds i true).getD j true=listed.getD j true:=fun j hj=>by
      rw[ZT,Zk,Z7 (fun e=>hj e.symm),ZT]
     have Ar:(listed.setIfInBounds i true).getD i true=true:=by
      rw[ZT,Zk];simp[bg,fm]
     refine ih _ _ _ (by simp[bg]) ?_ ⟨M3,σ',qf,zS,g1.trans hM,bp,by rw[Act.size_put];exact g3,by rw[Act.zk];exact g4,fun t ht=> ?_,fun j hj t jP cH=> ?_,fun j hj jP t ht j' dK cH Ox=> ?_,hph⟩
     ·have:=filter_lt (fun i=> !listed.getD i true) (fun k=> !(listed.setIfInBounds i true).getD k true) (List.range ops.size) (fun k _ hk=>by
       simp only[YF]at hk ⊢
       by_cases OC:k=i
       ·subst OC;rw[Ar]at hk;cases hk
       ·rw[Aq k OC]at hk;exact hk) ⟨i,qx,by simpa using gJ,by simp only[Bool.not_eq_false'];exact Ar⟩
      omega
     ·have aE:ops[i].dst≠some t:=by rw[← ko];exact ht i bW Ar
      have:=(g5 t (fun j hj hl=>ht j hj (by by_cases e:j=i;·subst e;exact Ar
                                            ·rw[Aq j e];exact hl))).mono hM
      have e:(a.put ops[i].dst v).tmps.getD t undef=a.tmps.getD t undef:=by
       cases hd:ops[i].dst with
       |none=>rfl
       |some u=>
        have vj:u≠t:=fun e=>aE (by rw[hd,e])
        simp[Act.put,YH vj]
      rw[e];exact this
     ·by_cases gd:j=i
      ·subst gd
       have hd:ops[j].dst=some t:=by rw[← ko];exact cH
       have I0:t<a.tmps.size:=by rw[g3];exact aw t cH
       have e:(a.put ops[j].dst v).tmps.getD t undef=v:=by simp[hd,Act.put,I0]
       rw[e,xR];exact hx
      ·have Dg:listed.getD j true=true:=by rw[← Aq j gd];exact jP
       have:=(g6 j hj t Dg cH).mono hM
       have e:(a.put ops[i].dst v).tmps.getD t undef=a.tmps.getD t undef:=by
        cases hd:ops[i].dst with
        |none=>rfl
        |some u=>
         have vj:u≠t:=fun e=>by
          subst e
          have h1:l[i].d=some u:=ko.trans hd
          have oe:=X5.1 hnd
          rcases X4 i j with h|h|h
          ·exact oe i j (by simpa using bW) (by simpa using hj) h (by simp[h1,cH])
          ·exact gd h.symm
          ·exact oe j i (by simpa using hj) (by simpa using bW) h (by simp[h1,cH])
         simp[Act.put,YH vj]
       rw[e,hxj j hj Dg];exact this
     ·by_cases Oz:j'=i
      ·subst Oz;exact Ar
      ·rw[Aq j' Oz]
       by_cases gd:j=i
       ·subst gd;exact kW t ht j' dK cH Ox
       ·rw[Aq j gd]at jP
        exact g7 j hj jP t ht j' dK cH Ox
    unfold wpOp
    simp only[ZN fm]
    rcases g8 with⟨h1,rfl,h3⟩|⟨h1,h2,h3⟩
    ·
     have c9:∀ j (hj:j<k),XS[j]'(by omega)=xs[j]'(by omega):=fun j hj=>by subst h3;simp
     rcases X4 i k with gr|gr|gr
     ·have IP:QV P cfg l[i] (dA (l.take i) (XS.take i) rg) jZ (XS[i]'(by omega)):=by
       have:=hQ1 i (by omega) (by omega)
       rw[O1 i (by omega),ab9 i (by omega) bW,c9 i gr]
       have e:XS.take i=xs.take i:=by rw[← h3,List.take_take,Yi (by omega)]
       rw[e];exact this
      have hq:=uc uS IP
      refine uy (K:=fun y σ'=>y=XS[i]'(by omega)∧σ'=jZ) (E:=fun _ _=>False) mR hq g2 nQ ⟨?_,fun _ _ _ _ _ _ h=>h.elim⟩
      rintro M3 x σ' v w' hM bp hx ⟨rfl,rfl⟩
      refine step M3 _ _ v w' XS hX hM bp hx rfl (fun _ _ _=>rfl) (.inl ⟨fun j hj kr=> ?_,rfl,h3⟩)
      rw[ZT,Zk,Z7 (by omega),← ZT]
      exact h1 j hj kr
     ·
      subst gr
      have cV:∀ d j,i-j=d→j<i→listed.getD j true=true:=by
       intro d
       induction d using Nat.strongRecOn with
       |_ d ihd=>
        intro j hd hj
        obtain⟨j',Ae,aj4,oj⟩:=air dE hj (by omega)
        obtain⟨ha,hb,t,Dv,Dw⟩:=RF oj
        by_cases e:j'=i
        ·subst e;exact kW t Dw j ha Dv Ae
        ·exact g7 j' hb (ihd (i-j') (by omega) j' rfl (by omega)) t Dw j ha Dv Ae
      have hv:cK P cfg l[i] (fun x σ'=>BD P cfg (fun ak=>Q .normal ak σ') l2 (bz s.d x (dA l1 xs rg)) σ') (fun _ _=>False) (Sx.ep l[i].reads (dA (l.take i) (XS.take i) rg)) jZ:=by
       have e0:l.take i=l1:=by rw[O1 i (ZX _),Zq (by omega)]
       rw[e0,h3]at uS ⊢
       rw[Ai]at uS ⊢
       unfold cK
       rw[lY]
       dsimp only
       rw[← pZ (fun t ht=>uS t (Zm _ ht))]
       exact zW
      refine uy (E:=fun _ _=>False) mR hv g2 nQ ⟨?_,fun _ _ _ _ _ _ h=>h.elim⟩
      rintro M3 x σ' v w' hM bp hx ⟨ys,hyl,⟨fg,Hm,hF⟩,hQ2⟩
      have pz:=ach
      have I7:xs.length=i:=by omega
      have zS:(xs++x::ys).length=l.length:=by simp[cQ,hyl,pz];omega
      refine step M3 x σ' v w' (xs++x::ys) zS hM bp hx (by rw[YM (by omega)];simp[I7]) (fun j hj jP=> ?_) (.inr ⟨fun j hj=> ?_,⟨fg,Hm,fun t=> ?_⟩,fun j hj OD=> ?_⟩)
      ·have il:j<i:=by
        rcases YU j i with h|h
        ·exact h
        ·rw[h1 j h hj]at jP;cases jP
       rw[c9 j il,Yf (by omega)]
      ·by_cases e:j=i
       ·subst e;rw[ZT,Zk];simp[bg,fm]
       ·rw[ZT,Zk,Z7 (fun h=>e h.symm),← ZT]
        exact cV _ j rfl (by omega)
      ·rw[hF,← hL,A8 l1 (s::l2) xs (x::ys) rg (by omega)];rfl
      ·have ik:j-i-1<l2.length:=by omega
       have:=hQ2 (j-i-1) ik (by omega)
       have e1:l[j]=l2[j-i-1]:=by
        simp only[← hL]
        rw[YM (by omega)]
        simp only[hK]
        rw[List.getElem_cons,dif_neg (by omega)]
       have e2:(xs++x::ys)[j]'(by rw[zS];exact hj)=ys[j-i-1]'(by omega):=by
        rw[YM (by omega)]
        simp only[I7]
        rw[List.getElem_cons,dif_neg (by omega)]
       have e3:l.take j=l1++s::l2.take (j-i-1):=by
        rw[← hL,List.take_append,Zq (by omega),hK]
        congr 1
        obtain⟨m,hm⟩:∃ m,j-i=m+1:=⟨j-i-1,by omega⟩
        rw[hm];rfl
       have e4:(xs++x::ys).take j=xs++x::ys.take (j-i-1):=by
        rw[List.take_append,Zq (by omega),I7]
        congr 1
        obtain⟨m,hm⟩:∃ m,j-i=m+1:=⟨j-i-1,by omega⟩
        rw[hm];rfl
       rw[e1,e2,e3,e4,A8 l1 _ xs _ rg (by omega)]
       exact this
     ·exfalso
      obtain⟨j',qz,ik,oj⟩:=aiq dE gr bW
      obtain⟨ha,hb,t,Dv,Dw⟩:=RF oj
      have:=kW t Dw j' ha Dv ik
      rw[h1 j' qz ha]at this
      cases this
    ·
     have gr:k<i:=by
      rcases YU k i with h|h
      ·exact h
      ·rw[h1 i h]at gJ;cases gJ
     have hq:=uc uS (h3 i bW gr)
     refine uy (K:=fun y σ'=>y=XS[i]'(by omega)∧σ'=jZ) (E:=fun _ _=>False) mR hq g2 nQ ⟨?_,fun _ _ _ _ _ _ h=>h.elim⟩
     rintro M3 x σ' v w' hM bp hx ⟨rfl,rfl⟩
     refine step M3 _ _ v w' XS hX hM bp hx rfl (fun _ _ _=>rfl) (.inr ⟨fun j hj=> ?_,h2,h3⟩)
     rw[ZT,Zk,Z7 (by omega),← ZT]
     exact h1 j hj
 refine main ops.size _ a _ (by simp) ?_ ⟨M,σ,xs++List.replicate (l.length-k) .any,by simp;omega,Mem.le.refl _,hI.eI,hN,hD,fun t _=>hR t,fun j hj t jP _=> ?_,fun j hj jP=> ?_,.inl ⟨fun j _ hj=> ?_,rfl,by rw[Za (by omega),Zq (by omega)]⟩⟩
 ·exact ZI (X8 _ _) (by simp)
 ·exfalso
  have uV:j<ops.size:=by omega
  simp[uV]at jP
 ·exfalso
  have uV:j<ops.size:=by omega
  simp[uV]at jP
 ·have uV:j<ops.size:=by omega
  simp[uV]
theorem KV{K:ag→Store→Prop}:∀ (l:List CI) (rg ej:ag),(∀ i,lk rg i=lk ej i)→(∀ c∈l,c.op.cls≤1∨(c.op.cls=4∧c.g=none))→cZ P cfg [] (bare l) K rg σ→
  ∃ xs:List AV,xs.length=l.length∧(∃ ak,K ak σ∧∀ i,lk ak i=lk (dA l xs ej) i)∧∀ i (h:i<l.length) (h':i<xs.length),QV P cfg l[i] (dA (l.take i) (xs.take i) ej) σ xs[i]:=yB
theorem T0{l1 l2:List CI}{s:CI}{f:FuncId}{args:List Operand}{Q:Exit→ag→Store→Prop}(cfg:Nat→Nat)(pE:pQ (l1++s::l2) 0=none)(hs:s.op= .call f args)(dE:q7 (l1++s::l2) l1.length=true)(lY:s.g=none)
  (h:cZ P cfg [] (bare l1) (fun bu aP=>∃ R:gP→Store→Prop,Spec P f (aL bu args) aP R∧(∀ x aJ,R (.ret x) aJ→cZ P cfg [] (bare l2) (Cl (Q .normal)) (bz s.d x bu) aJ)∧∀ ch aJ,R (.jW ch) aJ→False) rg σ):
  SW P N (.c8 (l1++s::l2)) Q rg σ:=by
 refine yT (Lx cfg (.inr pE) dE lY fun hc=> ?_)
 have uN:=yC l1 rg (fun c h=>hc c (by simp[h])) h
 obtain⟨xs,h1,⟨bu,⟨R,hR,hK,hE⟩,h3⟩,h4⟩:=KV l1 rg rg (fun _=>rfl) (fun c h=>hc c (by simp[h])) h
 refine⟨xs,h1,h4,?_,uN⟩
 rw[← pZ (rg:=bu) (fun t _=>h3 t),hs]
 simp only[aj]
 refine⟨R,hR,fun x σ' hr=> ?_,fun ch σ' hr=>hE ch σ' hr⟩
 exact yB l2 _ _ (x4 h3 s.d x) (fun c h=>hc c (by simp[h])) (hK x σ' hr)
end
section
variable {P:Program}[Glob P]{N:Nat}{cfg:Nat→Nat}{Q:Exit→ag→Store→Prop}{rg:ag}{σ:Store}{k:List Fr}{xr:XR}
def Bm(d:Nat):List CI→Option (List CI×CI×List CI)
 |[]=>none
 |c::l=>bif (match c.d with|some e=>Nat.beq e d|none=>false)then some ([],c,l)else match Bm d l with
  |some (a,s,b)=>some (c::a,s,b)
  |none=>none
theorem Sh{d:Nat}:∀ {l a b:List CI} {s:CI},Bm d l=some (a,s,b)→l=a++s::b
 |[],_,_,_,h=>by cases h
 |c::l,a,b,s,h=>by
  simp only[Bm]at h
  generalize (match c.d with|some e=>Nat.beq e d|none=>false)=q at h
  cases q with
  |true=>grind
  |false=>
   cases h2:Bm d l with
   |none=>grind
   |some p=>rw[h2]at h;cases h;rw[Sh h2];rfl
def ug:List CI→Option (List CI×CI×List CI)
 |[]=>none
 |c::l=>bif Nat.beq c.op.cls 4 then some ([],c,l)else match ug l with
  |some (a,s,b)=>some (c::a,s,b)
  |none=>none
theorem F5:∀ {l a b:List CI} {s:CI},ug l=some (a,s,b)→l=a++s::b∧s.op.cls=4
 |[],_,_,_,h=>by cases h
 |c::l,a,b,s,h=>by
  simp only[ug]at h
  cases q:Nat.beq c.op.cls 4 with
  |true=>simp_all
  |false=>
   rw[q]at h
   cases h2:ug l with
   |none=>grind
   |some p=>
    obtain⟨e,e2⟩:=F5 h2
    grind
theorem ajj{P:Program}[Glob P]{cfg:Nat→Nat}{d:Option Nat}{rg:ag}{σ:Store}{K K':AV→Store→Prop}{E E':List PanicEntry→Store→Prop}{op:ax}(h4:op.cls=4)(hk:∀ x σ',K x σ'→K' x σ')(h:aj P cfg d rg σ K E op):aj P cfg d rg σ K' E' op:=by
 cases op<;>simp only[ax.cls,reduceCtorEq,Nat.reduceEqDiff,Nat.zero_ne_add_one]at h4
 ·simp only[aj]at h ⊢
  split at h
  ·grind
  ·grind
  ·grind
  grind
 ·exact fC.mono h hk
def wF(P:Program)[Glob P](cfg:Nat→Nat)(l2:List CI)(K:ag→Store→Prop)(rg:ag)(σ:Store):Prop:=cZ P cfg [] (bare l2) (Cl K) rg σ
def rI(P:Program)[Glob P](cfg:Nat→Nat)(K:ag→Store→Prop)(s:CI)(l2:List CI)(rg:ag)(σ:Store):Prop:=fh P cfg [s] (wF P cfg l2 K) (fun _ _=>False) rg σ
theorem LA{P:Program}[Glob P]{N:Nat}{l1 l2:List CI}{s:CI}{Q:Exit→ag→Store→Prop}{rg:ag}{σ:Store}(cfg:Nat→Nat)(h4:s.op.cls=4)(dE:q7 (l1++s::l2) l1.length=true)(lY:s.g=none)
  (h:cZ P cfg [] (bare l1) (rI P cfg (Q .normal) s l2) rg σ):SW P N (.c8 (l1++s::l2)) Q rg σ:=by
 refine yT (Lx cfg (.inl h4) dE lY fun hc=> ?_)
 have uN:=yC l1 rg (fun c h=>hc c (by simp[h])) h
 obtain⟨xs,h1,⟨bu,hM,h3⟩,h4'⟩:=KV l1 rg rg (fun _=>rfl) (fun c h=>hc c (by simp[h])) h
 refine⟨xs,h1,h4',?_,uN⟩
 rw[← pZ (rg:=bu) (fun t _=>h3 t)]
 simp only[rI,fh,cK,lY]at hM
 refine ajj h4 (fun x σ' hx=> ?_) hM
 exact yB l2 _ _ (x4 h3 s.d x) (fun c h=>hc c (by simp[h])) hx
theorem Vj{l l1 l2:List CI}{s:CI}(hl:ug l=some (l1,s,l2))(dE:q7 l l1.length=true)(lY:s.g=none)(hx:toXO rg=some xr)
  (h:VY P cfg [] (bare l1) (rI P cfg (FK P N cfg Q .normal k) s l2) xr σ):WK P N cfg Q (.c8 l) k rg σ:=by
 obtain⟨e,h4⟩:=F5 hl
 subst e
 refine⟨WA.mono (Q:=fun e=>FK P N cfg Q e k) ⟨rfl,LA cfg h4 dE lY ?_⟩ fun _ _ _ h=>h.h⟩
 have:=h.h
 rw[← yv hx,w7]at this
 grind
theorem UZ{K:ag→Store→Prop}{s:CI}{l2:List CI}(h:VX P cfg [s] (wF P cfg l2 K) (fun _ _=>False) xr σ):VY P cfg [] [] (rI P cfg K s l2) xr σ:=⟨h.h⟩
theorem Uu{K:ag→Store→Prop}{E:List PanicEntry→Store→Prop}{l2:List CI}(h:VY P cfg [] (bare l2) (Cl K) xr σ):VX P cfg [] (wF P cfg l2 K) E xr σ:=⟨h.h⟩
end
end Go.Sx
