/-
  A region of open order with one call that turns the store: what the call reads, the call, what reads it.
-/
import Derived.Test.YtcccbdelfhgmlaaGreatDoorSxX
set_option linter.unusedVariables false
set_option linter.unusedSimpArgs false
set_option linter.unusedSectionVars false
namespace Go.Sx
open Go.RowKit
def yU(l:List CI)(a b:Nat):Bool:=match l[a]?,l[b]? with
 |some x,some y=>match x.d with
  |some t=>y.reads.elem t
  |none=>false
 |_,_=>false
def ue(l:List CI)(k:Nat):Bool:=(List.range l.length).all fun j=>
 bif Nat.blt j k then(List.range (k+1)).any fun i=>Nat.blt j i && yU l j i
 else(Nat.beq j k || (List.range j).any fun i=>Nat.ble k i && yU l i j)
theorem TL{l:List CI}{a b:Nat}(h:yU l a b=true):∃ (ha:a<l.length) (hb:b<l.length) (t:Nat),l[a].d=some t∧t∈l[b].reads:=by
 unfold yU at h
 split at h
 ·rename_i x y hx hy
  obtain⟨h1,h2⟩:=ZP.1 hx
  obtain⟨h3,h4⟩:=ZP.1 hy
  split at h
  ·rename_i t ht
   exact⟨h1,h3,t,by rw[h2];exact ht,by rw[h4];exact List.elem_iff.1 h⟩
  ·cases h
 ·cases h
theorem awx{l:List CI}{k j:Nat}(h:ue l k=true)(hj:j<k)(hl:j<l.length):∃ i,j<i∧i≤k∧yU l j i=true:=by
 unfold ue at h
 have:=ZA.1 h j (by simpa using hl)
 have e:Nat.blt j k=true:=Nat.ble_eq_true_of_le hj
 rw[e]at this
 obtain⟨i,h1,h2⟩:=YC.1 this
 rw[Z0]at h2
 exact⟨i,Z7 h2.1,by have:=Y6.1 h1;omega,h2.2⟩
theorem aww{l:List CI}{k j:Nat}(h:ue l k=true)(hj:k<j)(hl:j<l.length):∃ i,k≤i∧i<j∧yU l i j=true:=by
 unfold ue at h
 have:=ZA.1 h j (by simpa using hl)
 have e:Nat.blt j k=false:=by
  cases e:Nat.blt j k with
  |false=>rfl
  |true=>have:j+1≤k:=Z7 e;omega
 have e2:Nat.beq j k=false:=by
  cases e:Nat.beq j k with
  |false=>rfl
  |true=>have:=ZB e;omega
 rw[e,e2]at this
 obtain⟨i,h1,h2⟩:=YC.1 this
 rw[Z0]at h2
 exact⟨i,Z7 h2.1,Y6.1 h1,h2.2⟩
theorem Ch:∀ (l l':List CI) (xs ys:List AV) (rg:ag),xs.length=l.length→dD (l++l') (xs++ys) rg=dD l' ys (dD l xs rg)
 |[],l',[],ys,rg,_=>by simp[dD]
 |c::l,l',x::xs,ys,rg,h=>by
  simp only[ZC,dD]
  exact Ch l l' xs ys _ (by simpa using h)
 |[],_,_::_,_,_,h=>by simp at h
 |_::_,_,[],_,_,h=>by simp at h
section
variable {P:Program}[Glob P]{M:Mem}{w0:Base}{w:World}{σ:Store}{rg:ag}{a:Act}{cfg:Nat→Nat}{N:Nat}
theorem Ww{l1 l2:List CI}{s:CI}{Q:Exit→ag→Store→Prop}(cfg:Nat→Nat)(ni:s.op.cls=4∨vV (l1++s::l2) 0=none)(fJ:ue (l1++s::l2) l1.length=true)(nj:s.g=none)
  (h:(∀ c∈l1++s::l2,c.op.cls≤1∨(c.op.cls=4∧c.g=none))→∃ xs:List AV,xs.length=l1.length∧(∀ i (h:i<l1.length) (h':i<xs.length),QV P cfg l1[i] (dD (l1.take i) (xs.take i) rg) σ xs[i])∧
   aj P cfg s.d (dD l1 xs rg) σ (fun x σ'=>C1 P cfg (fun ao=>Q .normal ao σ') l2 (cm s.d x (dD l1 xs rg)) σ') (fun _ _=>False) s.op∧(∀ c∈l1,c.op.cls≤1)):
  SW P N (.dV (l1++s::l2)) Q rg σ:=by
 intro c hc M w0 a w hI hR hN hD
 obtain⟨id,ops,rfl,hl,bK,s8⟩:=eD hc
 obtain⟨hlen,x8⟩:=Dn ops.toList _ hl
 obtain⟨xs,pS,hQ1,oa,Bf⟩:=h (OP bK)
 clear h
 obtain⟨k,hK⟩:∃ k,l1.length=k:=⟨_,rfl⟩
 have tc:k<(l1++s::l2).length:=by simp[hK]
 have QP:(l1++s::l2)[k]=s:=by simp[← hK]
 have afj:∀ i,i≤k→(l1++s::l2).take i=l1.take i:=fun i hi=>by rw[Y0 (by omega)]
 have QA:∀ i (h:i<k) (h':i<(l1++s::l2).length),(l1++s::l2)[i]=l1[i]'(by omega):=fun i h h'=>by simp[hK,h]
 have aeV:(l1++s::l2).length=k+(1+l2.length):=by simp[hK];omega
 have jO:∀ k',vV (l1++s::l2) 0=some k'→k'=k:=by
  intro k' h4
  rcases ni with ni|ni
  case inr=>rw[ni]at h4;cases h4
  obtain⟨i,hi,e,h4,Bx⟩:=Kv _ _ h4
  rcases Yu i k with h|h|h
  ·exfalso
   rw[QA i h hi]at h4
   have:=Bf _ (Zp (show i<l1.length by omega))
   omega
  ·omega
  ·exfalso
   exact Bx k h tc (by rw[QP];exact ni)
 rw[hK]at fJ
 generalize hL:l1++s::l2=l at *
 have hk:=tc
 have tj:=QP
 have Rp:=afj
 have aeO:=QA
 have tf:l.length=ops.size:=by simpa using hlen
 have aeW:(l.map (·.d)).Nodup∧∀ x∈(l.zip ops.toList).zipIdx,(x.1.2.after.all fun e=> !Region.binds .any e || decide (e.on<x.2))=true∧
   (x.1.1.reads.all fun t=>match posOf t (l.map (·.d)) 0 with
    |some j=>(x.1.2.after.any fun e=>Region.binds .any e && e.on == j) || (Nat.ble x.2 k && Nat.blt k j)
    |none=>true)=true:=by
  rcases bK with bK|bK
  ·unfold qO at bK
   simp only[Z0,Zq]at bK
   obtain⟨⟨hnd,_⟩,pG⟩:=bK
   rw[ZA]at pG
   refine⟨hnd,fun x hx=> ?_⟩
   have:=pG x hx
   simp only[Z0]at this
   refine⟨this.1,ZA.2 fun t ht=> ?_⟩
   have h3:=ZA.1 this.2 t ht
   split at h3
   ·rename_i j e;simp only[e];rw[h3];rfl
   ·rename_i e;simp only[e]
  ·unfold qP at bK
   split at bK
   ·cases bK
   ·rename_i k' e
    simp only[Z0,Zq]at bK
    obtain⟨⟨hnd,_⟩,pG⟩:=bK
    rw[ZA]at pG
    have e':=jO k' e
    subst e'
    refine⟨hnd,fun x hx=> ?_⟩
    have:=pG x hx
    simp only[Z0]at this
    exact this
 obtain⟨hnd,pG⟩:=aeW
 have er:∀ i (hi:i<l.length) (ho:i<ops.size),(∀ e∈ops[i].after,Region.binds .any e=true→e.on<i)∧∀ t∈l[i].reads,(∀ c∈l,c.d≠some t)∨(∃ j,∃ hj:j<l.length,l[j].d=some t∧j<i∧∃ e∈ops[i].after,Region.binds .any e=true∧e.on=j)∨
   ∃ j,∃ hj:j<l.length,l[j].d=some t∧i≤k∧k<j:=by
  intro i hi ho
  have hm:((l[i],ops[i]),i)∈(l.zip ops.toList).zipIdx:=by
   rw[List.mem_zipIdx_iff_getElem?]
   simp[List.getElem?_zip_eq_some,hi,ho]
  obtain⟨h1,h2⟩:=pG _ hm
  have hb:∀ e∈ops[i].after,Region.binds .any e=true→e.on<i:=by
   intro e he kO
   have:=ZE.1 h1 e he
   simpa[kO]using this
  refine⟨hb,fun t ht=> ?_⟩
  have h3:=ZA.1 h2 t ht
  split at h3
  ·rename_i j hj
   right
   have na:j<l.length∧(l.map (·.d))[j]? =some (some t):=by
    obtain⟨i',h5,h6⟩:=Kx _ _ hj
    obtain rfl:j=i':=by omega
    exact⟨by have:=(ZP.1 h6).1;simpa using this,h6⟩
   obtain⟨mZ,lS⟩:=na
   rw[Y7]at h3
   rcases h3 with h3|h3
   ·left
    rw[X2]at h3
    obtain⟨m,lU,h4⟩:=h3
    simp only[Z0,beq_iff_eq]at h4
    refine⟨j,mZ,by simpa[mZ]using lS,?_,ops[i].after[m],Ys lU,h4.1,h4.2⟩
    rw[← h4.2]
    exact hb _ (Ys lU) h4.1
   ·right
    rw[Z0]at h3
    exact⟨j,mZ,by simpa[mZ]using lS,Z7 h3.1,Z7 h3.2⟩
  ·rename_i hj
   left
   intro c hc e
   exact Kw _ _ hj (by rw[← e];exact Yq hc)
 have xM:∀ (XS:List AV) (hX:XS.length=l.length) j (h:j<l.length) t,l[j].d=some t→lk (dD l XS rg) t=XS[j]'(by omega):=fun XS hX j h t ht=>BW l XS rg hnd hX j h (by omega) t ht
 have xN:∀ (XS:List AV) t,(∀ c∈l,c.d≠some t)→lk (dD l XS rg) t=lk rg t:=fun XS t ht=>vO l XS rg t ht
 have Ei:∀ j j' t,(hj:j<l.length)→(eo:j'<l.length)→l[j].d=some t→l[j'].d=some t→j=j':=by
  intro j j' t hj eo cO x9
  have ou:=Yj.1 hnd
  rcases Yu j j' with h|h|h
  ·exact((ou j j' (by simpa using hj) (by simpa using eo) h) (by simp[cO,x9])).elim
  ·exact h
  ·exact((ou j' j (by simpa using eo) (by simpa using hj) h) (by simp[cO,x9])).elim
 refine G8 s8 ?_
 have main:∀ (fuel:Nat) (listed:Array Bool) (a:Act) (w:World),listed.size=ops.size→((List.range ops.size).filter (fun i=> !listed.getD i true)).length≤fuel→
   (∃ M2 jW XS,∃ hX:XS.length=l.length,M.le M2∧Inv P M2 w0 jW w∧a.tmps.size=N∧a.defers=Glob.df P∧(∀ t,(∀ j (h:j<l.length),listed.getD j true=true→l[j].d≠some t)→R M2 (lk rg t) (a.tmps.getD t undef))∧
    (∀ j (h:j<l.length) t,listed.getD j true=true→l[j].d=some t→R M2 (XS[j]'(by omega)) (a.tmps.getD t undef))∧
    (∀ j (h:j<l.length),listed.getD j true=true→∀ t∈l[j].reads,∀ i (hi:i<l.length),l[i].d=some t→i<j→listed.getD i true=true)∧
    (((∀ j,k≤j→j<l.length→listed.getD j true=false)∧jW=σ∧XS.take k=xs)∨
     ((∀ j,j≤k→listed.getD j true=true)∧(∃ gj,Q .normal gj jW∧∀ i,lk gj i=lk (dD l XS rg) i)∧∀ j (h:j<l.length),k<j→QV P cfg l[j] (dD (l.take j) (XS.take j) rg) jW (XS[j]'(by omega)))))→
   wpAny P .any ops (iB P M w0 N Q) fuel listed a w:=by
  have fin:∀ (listed:Array Bool) (a:Act) (w:World),(∀ i,i<ops.size→listed.getD i true=true)→(∃ M2 jW XS,∃ hX:XS.length=l.length,M.le M2∧Inv P M2 w0 jW w∧a.tmps.size=N∧a.defers=Glob.df P∧(∀ t,(∀ j (h:j<l.length),listed.getD j true=true→l[j].d≠some t)→R M2 (lk rg t) (a.tmps.getD t undef))∧
    (∀ j (h:j<l.length) t,listed.getD j true=true→l[j].d=some t→R M2 (XS[j]'(by omega)) (a.tmps.getD t undef))∧
    (∀ j (h:j<l.length),listed.getD j true=true→∀ t∈l[j].reads,∀ i (hi:i<l.length),l[i].d=some t→i<j→listed.getD i true=true)∧
    (((∀ j,k≤j→j<l.length→listed.getD j true=false)∧jW=σ∧XS.take k=xs)∨
     ((∀ j,j≤k→listed.getD j true=true)∧(∃ gj,Q .normal gj jW∧∀ i,lk gj i=lk (dD l XS rg) i)∧∀ j (h:j<l.length),k<j→QV P cfg l[j] (dD (l.take j) (XS.take j) rg) jW (XS[j]'(by omega)))))→iB P M w0 N Q .normal a w:=by
   rintro listed a w cV ⟨M2,jW,XS,hX,g1,g2,g3,g4,g5,g6,g7,⟨h1,_,_⟩|⟨h1,⟨gj,Io,hF⟩,h3⟩⟩
   ·exfalso
    have:=cV k (by omega)
    rw[h1 k (ZR _) hk]at this
    cases this
   ·refine⟨M2,gj,jW,g1,g2,fun t=> ?_,g3,g4,Io⟩
    rw[hF]
    by_cases ht:∃ j,∃ h:j<l.length,l[j].d=some t
    ·obtain⟨j,hj,cO⟩:=ht
     rw[xM XS hX j hj t cO]
     exact g6 j hj t (cV j (by omega)) cO
    ·have hn:∀ c∈l,c.d≠some t:=fun c hc e=>by
      obtain⟨j,hj,rfl⟩:=Y5.1 hc
      exact ht ⟨j,hj,e⟩
     rw[xN XS t hn]
     exact g5 t (fun j hj _=>hn _ (Zp hj))
  intro fuel
  induction fuel with
  |zero=>
   intro listed a w aQ xX vC
   have cV:∀ i,i<ops.size→listed.getD i true=true:=by
    intro i hi
    cases om:listed.getD i true with
    |true=>rfl
    |false=>
     have:i∈(List.range ops.size).filter (fun i=> !listed.getD i true):=by simp only[Ze,Y6,hi,om,XF,and_self]
     have:=List.length_pos_of_mem this
     omega
   refine⟨?_,fin listed a w cV vC⟩
   unfold Region.ready
   rw[X4]
   intro i hi
   simp[cV i (by simpa using hi)]
  |succ fuel ih=>
   intro listed a w aQ xX vC
   refine⟨fun hr=> ?_,fun i hi=> ?_⟩
   ·
    have cV:∀ i,i<ops.size→listed.getD i true=true:=by
     intro i
     induction i using Nat.strongRecOn with
     |_ i JM=>
      intro hi
      cases om:listed.getD i true with
      |true=>rfl
      |false=>
       have:i∈Region.ready .any ops listed:=by
        unfold Region.ready
        rw[Ze]
        refine⟨by simpa using hi,?_⟩
        simp only[om,XF,Bool.true_and,ZL hi,Zh,Zx]
        rw[ZE]
        intro e he
        cases kO:Region.binds .any e with
        |false=>rfl
        |true=>
         have ax:=(er i (by omega) hi).1 e he kO
         have:=JM e.on ax (by omega)
         have h2:listed.getD e.on false=true:=by
          rw[Z2]at this ⊢
          rw[ZL (by omega)]at this ⊢
          exact this
         simp[h2]
       rw[hr]at this
       cases this
    exact fin listed a w cV vC
   ·unfold Region.ready at hi
    rw[Ze]at hi
    obtain⟨qU,lO⟩:=hi
    have gd:i<ops.size:=by simpa using qU
    simp only[Z0,YW,ZL gd,Zh,Zx]at lO
    obtain⟨qZ,x3⟩:=lO
    have bJ:i<l.length:=by omega
    have pF:qM P N ops ops[i]=some l[i]:=by have:=x8 i (by simpa using gd) bJ;simpa using this
    obtain⟨j6,ax⟩:=AD pF
    obtain⟨M2,jW,XS,hX,g1,g2,g3,g4,g5,g6,g7,g8⟩:=vC
    have j9:∀ t∈l[i].reads,∀ j (hj:j<l.length),l[j].d=some t→j<i→listed.getD j true=true:=by
     intro t ht j hj cO ays
     rcases(er i bJ gd).2 t ht with hn|⟨j',eo,x9,j7,e,he,kO,IW⟩|⟨j',eo,x9,js,dt⟩
     ·exact absurd cO (hn _ (Zp hj))
     ·have Bo:=Ei j j' t hj eo cO x9
      subst Bo
      have:=ZE.1 x3 e he
      simp only[kO,Bool.not_true,Bool.false_or,IW]at this
      rw[Z2]at this ⊢
      rw[ZL (by omega)]at this ⊢
      exact this
     ·have Bo:=Ei j j' t hj eo cO x9
      omega
    have qS:bQ M2 (Sx.fG l[i].reads (dD (l.take i) (XS.take i) rg)) a:=by
     intro t
     by_cases ht:t∈l[i].reads
     ·rw[xf.EA ht]
      have ax:∀ j (hj:j<l.length),l[j].d=some t→i<j→lk (dD (l.take i) (XS.take i) rg) t=lk rg t:=fun j hj cO gA=>
       vO _ _ _ _ (fun c hc e=>by
        obtain⟨m,hm,rfl⟩:=Y5.1 hc
        simp only[ZK]at hm
        rw[List.getElem_take]at e
        have:=Ei m j t (by omega) hj e cO
        omega)
      rcases(er i bJ gd).2 t ht with hn|⟨j,hj,cO,j7,_⟩|⟨j,hj,cO,js,dt⟩
      ·rw[vO _ _ _ _ (fun c hc=>hn c (List.mem_of_mem_take hc))]
       exact g5 t (fun j hj _=>hn _ (Zp hj))
      ·have e1:(l.take i)[j]'(by simp;omega)=l[j]:=by simp
       have e2:(XS.take i)[j]'(by simp;omega)=XS[j]'(by omega):=by simp
       rw[BW (l.take i) (XS.take i) rg (by rw[XM];exact hnd.sublist (List.take_sublist _ _)) (by simp[hX]) j (by simp;omega) (by simp;omega) t (by rw[e1];exact cO),e2]
       exact g6 j hj t (j9 t ht j hj cO j7) cO
      ·rw[ax j hj cO (by omega)]
       refine g5 t (fun j' eo gg e=> ?_)
       have:=Ei j' j t eo hj e cO
       subst this
       rcases g8 with⟨h1,_,_⟩|⟨h1,_,_⟩
       ·rw[h1 j' (by omega) eo]at gg;cases gg
       ·rw[h1 i js]at qZ;cases qZ
     ·rw[xf.Sg ht];exact .any _
    have vq:∀ t∈l[i].reads,lk (dD (l.take i) (XS.take i) rg) t=lk (Sx.fG l[i].reads (dD (l.take i) (XS.take i) rg)) t:=fun t ht=>by
     rw[xf.EA ht]
    have step:∀ M3 (x:AV) σ' v w' qF (A5:qF.length=l.length),M2.le M3→Inv P M3 w0 σ' w'→R M3 x v→qF[i]'(by omega)=x→(∀ j (hj:j<l.length),listed.getD j true=true→qF[j]'(by omega)=XS[j]'(by omega))→
      (((∀ j,k≤j→j<l.length→(listed.setIfInBounds i true).getD j true=false)∧σ'=σ∧qF.take k=xs)∨
       ((∀ j,j≤k→(listed.setIfInBounds i true).getD j true=true)∧(∃ gj,Q .normal gj σ'∧∀ i,lk gj i=lk (dD l qF rg) i)∧∀ j (h:j<l.length),k<j→QV P cfg l[j] (dD (l.take j) (qF.take j) rg) σ' (qF[j]'(by omega))))→
      wpAny P .any ops (iB P M w0 N Q) fuel (listed.setIfInBounds i true) (a.put ops[i].dst v) w':=by
     intro M3 x σ' v w' qF A5 hM aP hx yn hxj hph
     have rm:∀ j,j≠i→(listed.setIfInBounds i true).getD j true=listed.getD j true:=fun j hj=>by
      rw[Z2,Zv,Z9 (fun e=>hj e.symm),Z2]
     have BK:(listed.setIfInBounds i true).getD i true=true:=by
      rw[Z2,Zv];simp[aQ,gd]
     refine ih _ _ _ (by simp[aQ]) ?_ ⟨M3,σ',qF,A5,g1.trans hM,aP,by rw[Act.size_put];exact g3,by rw[Act.AG];exact g4,fun t ht=> ?_,fun j hj t jN cO=> ?_,fun j hj jN t ht j' eo cO QE=> ?_,hph⟩
     ·have:=filter_lt (fun i=> !listed.getD i true) (fun k=> !(listed.setIfInBounds i true).getD k true) (List.range ops.size) (fun k _ hk=>by
       simp only[YW]at hk ⊢
       by_cases QI:k=i
       ·subst QI;rw[BK]at hk;cases hk
       ·rw[rm k QI]at hk;exact hk) ⟨i,qU,by simpa using qZ,by simp only[Bool.not_eq_false'];exact BK⟩
      omega
     ·have aJ:ops[i].dst≠some t:=by rw[← j6];exact ht i bJ BK
      have:=(g5 t (fun j hj hl=>ht j hj (by by_cases e:j=i;·subst e;exact BK
                                            ·rw[rm j e];exact hl))).mono hM
      have e:(a.put ops[i].dst v).tmps.getD t undef=a.tmps.getD t undef:=by
       cases hd:ops[i].dst with
       |none=>rfl
       |some u=>
        have vD:u≠t:=fun e=>aJ (by rw[hd,e])
        simp[Act.put,YV vD]
      rw[e];exact this
     ·by_cases gA:j=i
      ·subst gA
       have hd:ops[j].dst=some t:=by rw[← j6];exact cO
       have Jy:t<a.tmps.size:=by rw[g3];exact ax t cO
       have e:(a.put ops[j].dst v).tmps.getD t undef=v:=by simp[hd,Act.put,Jy]
       rw[e,yn];exact hx
      ·have D9:listed.getD j true=true:=by rw[← rm j gA];exact jN
       have:=(g6 j hj t D9 cO).mono hM
       have e:(a.put ops[i].dst v).tmps.getD t undef=a.tmps.getD t undef:=by
        cases hd:ops[i].dst with
        |none=>rfl
        |some u=>
         have vD:u≠t:=fun e=>by
          subst e
          have h1:l[i].d=some u:=j6.trans hd
          have ou:=Yj.1 hnd
          rcases Yu i j with h|h|h
          ·exact ou i j (by simpa using bJ) (by simpa using hj) h (by simp[h1,cO])
          ·exact gA h.symm
          ·exact ou j i (by simpa using hj) (by simpa using bJ) h (by simp[h1,cO])
         simp[Act.put,YV vD]
       rw[e,hxj j hj D9];exact this
     ·by_cases QF:j'=i
      ·subst QF;exact BK
      ·rw[rm j' QF]
       by_cases gA:j=i
       ·subst gA;exact j9 t ht j' eo cO QE
       ·rw[rm j gA]at jN
        exact g7 j hj jN t ht j' eo cO QE
    unfold wpOp
    simp only[ZL gd]
    rcases g8 with⟨h1,rfl,h3⟩|⟨h1,h2,h3⟩
    ·
     have fK:∀ j (hj:j<k),XS[j]'(by omega)=xs[j]'(by omega):=fun j hj=>by subst h3;simp
     rcases Yu i k with lR|lR|lR
     ·have rh:QV P cfg l[i] (dD (l.take i) (XS.take i) rg) jW (XS[i]'(by omega)):=by
       have:=hQ1 i (by omega) (by omega)
       rw[Rp i (by omega),aeO i (by omega) bJ,fK i lR]
       have e:XS.take i=xs.take i:=by rw[← h3,List.take_take,Nat.min_eq_left (by omega)]
       rw[e];exact this
      have hq:=uI vq rh
      refine uY (K:=fun y σ'=>y=XS[i]'(by omega)∧σ'=jW) (E:=fun _ _=>False) pF hq g2 qS ⟨?_,fun _ _ _ _ _ _ h=>h.elim⟩
      rintro M3 x σ' v w' hM aP hx ⟨rfl,rfl⟩
      refine step M3 _ _ v w' XS hX hM aP hx rfl (fun _ _ _=>rfl) (.inl ⟨fun j hj na=> ?_,rfl,h3⟩)
      rw[Z2,Zv,Z9 (by omega),← Z2]
      exact h1 j hj na
     ·
      subst lR
      have cV:∀ d j,i-j=d→j<i→listed.getD j true=true:=by
       intro d
       induction d using Nat.strongRecOn with
       |_ d ihd=>
        intro j hd hj
        obtain⟨j',Bo,ayr,ox⟩:=awx fJ hj (by omega)
        obtain⟨ha,hb,t,oA,gC⟩:=TL ox
        by_cases e:j'=i
        ·subst e;exact j9 t gC j ha oA Bo
        ·exact g7 j' hb (ihd (i-j') (by omega) j' rfl (by omega)) t gC j ha oA Bo
      have hv:dO P cfg l[i] (fun x σ'=>C1 P cfg (fun ao=>Q .normal ao σ') l2 (cm s.d x (dD l1 xs rg)) σ') (fun _ _=>False) (Sx.fG l[i].reads (dD (l.take i) (XS.take i) rg)) jW:=by
       have e0:l.take i=l1:=by rw[Rp i (ZR _),ZD (by omega)]
       rw[e0,h3]at vq ⊢
       rw[tj]at vq ⊢
       unfold dO
       rw[nj]
       dsimp only
       rw[← rV (fun t ht=>vq t (ZN _ ht))]
       exact oa
      refine uY (E:=fun _ _=>False) pF hv g2 qS ⟨?_,fun _ _ _ _ _ _ h=>h.elim⟩
      rintro M3 x σ' v w' hM aP hx ⟨ys,hyl,⟨gj,Io,hF⟩,hQ2⟩
      have qX:=aeV
      have JG:xs.length=i:=by omega
      have A5:(xs++x::ys).length=l.length:=by simp[pS,hyl,qX];omega
      refine step M3 x σ' v w' (xs++x::ys) A5 hM aP hx (by rw[YR (by omega)];simp[JG]) (fun j hj jN=> ?_) (.inr ⟨fun j hj=> ?_,⟨gj,Io,fun t=> ?_⟩,fun j hj QJ=> ?_⟩)
      ·have j7:j<i:=by
        rcases X6 j i with h|h
        ·exact h
        ·rw[h1 j h hj]at jN;cases jN
       rw[fK j j7,YH (by omega)]
      ·by_cases e:j=i
       ·subst e;rw[Z2,Zv];simp[aQ,gd]
       ·rw[Z2,Zv,Z9 (fun h=>e h.symm),← Z2]
        exact cV _ j rfl (by omega)
      ·rw[hF,← hL,Ch l1 (s::l2) xs (x::ys) rg (by omega)];rfl
      ·have lS:j-i-1<l2.length:=by omega
       have:=hQ2 (j-i-1) lS (by omega)
       have e1:l[j]=l2[j-i-1]:=by
        simp only[← hL]
        rw[YR (by omega)]
        simp only[hK]
        rw[List.getElem_cons,dif_neg (by omega)]
       have e2:(xs++x::ys)[j]'(by rw[A5];exact hj)=ys[j-i-1]'(by omega):=by
        rw[YR (by omega)]
        simp only[JG]
        rw[List.getElem_cons,dif_neg (by omega)]
       have e3:l.take j=l1++s::l2.take (j-i-1):=by
        rw[← hL,List.take_append,ZD (by omega),hK]
        congr 1
        obtain⟨m,hm⟩:∃ m,j-i=m+1:=⟨j-i-1,by omega⟩
        rw[hm];rfl
       have e4:(xs++x::ys).take j=xs++x::ys.take (j-i-1):=by
        rw[List.take_append,ZD (by omega),JG]
        congr 1
        obtain⟨m,hm⟩:∃ m,j-i=m+1:=⟨j-i-1,by omega⟩
        rw[hm];rfl
       rw[e1,e2,e3,e4,Ch l1 _ xs _ rg (by omega)]
       exact this
     ·exfalso
      obtain⟨j',mZ,lS,ox⟩:=aww fJ lR bJ
      obtain⟨ha,hb,t,oA,gC⟩:=TL ox
      have:=j9 t gC j' ha oA lS
      rw[h1 j' mZ ha]at this
      cases this
    ·
     have lR:k<i:=by
      rcases X6 k i with h|h
      ·exact h
      ·rw[h1 i h]at qZ;cases qZ
     have hq:=uI vq (h3 i bJ lR)
     refine uY (K:=fun y σ'=>y=XS[i]'(by omega)∧σ'=jW) (E:=fun _ _=>False) pF hq g2 qS ⟨?_,fun _ _ _ _ _ _ h=>h.elim⟩
     rintro M3 x σ' v w' hM aP hx ⟨rfl,rfl⟩
     refine step M3 _ _ v w' XS hX hM aP hx rfl (fun _ _ _=>rfl) (.inr ⟨fun j hj=> ?_,h2,h3⟩)
     rw[Z2,Zv,Z9 (by omega),← Z2]
     exact h1 j hj
 refine main ops.size _ a _ (by simp) ?_ ⟨M,σ,xs++List.replicate (l.length-k) .any,by simp;omega,Mem.le.refl _,hI.lK,hN,hD,fun t _=>hR t,fun j hj t jN _=> ?_,fun j hj jN=> ?_,.inl ⟨fun j _ hj=> ?_,rfl,by rw[Y0 (by omega),ZD (by omega)]⟩⟩
 ·exact Zk (XE _ _) (by simp)
 ·exfalso
  have vv:j<ops.size:=by omega
  simp[vv]at jN
 ·exfalso
  have vv:j<ops.size:=by omega
  simp[vv]at jN
 ·have vv:j<ops.size:=by omega
  simp[vv]
theorem Vq{K:ag→Store→Prop}:∀ (l:List CI) (rg fV:ag),(∀ i,lk rg i=lk fV i)→(∀ c∈l,c.op.cls≤1∨(c.op.cls=4∧c.g=none))→cZ P cfg [] (bare l) K rg σ→
  ∃ xs:List AV,xs.length=l.length∧(∃ ao,K ao σ∧∀ i,lk ao i=lk (dD l xs fV) i)∧∀ i (h:i<l.length) (h':i<xs.length),QV P cfg l[i] (dD (l.take i) (xs.take i) fV) σ xs[i]:=CM
end
section
variable {P:Program}[Glob P]{N:Nat}{cfg:Nat→Nat}{Q:Exit→ag→Store→Prop}{rg:ag}{σ:Store}{k:List Fr}{xr:XR}
def Cw(d:Nat):List CI→Option (List CI×CI×List CI)
 |[]=>none
 |c::l=>bif (match c.d with|some e=>Nat.beq e d|none=>false)then some ([],c,l)else match Cw d l with
  |some (a,s,b)=>some (c::a,s,b)
  |none=>none
theorem UF{d:Nat}:∀ {l a b:List CI} {s:CI},Cw d l=some (a,s,b)→l=a++s::b
 |[],_,_,_,h=>by cases h
 |c::l,a,b,s,h=>by
  simp only[Cw]at h
  generalize (match c.d with|some e=>Nat.beq e d|none=>false)=q at h
  cases q with
  |true=>cases h;rfl
  |false=>
   simp only[cond_false]at h
   cases h2:Cw d l with
   |none=>rw[h2]at h;cases h
   |some p=>obtain⟨a',s',b'⟩:=p;rw[h2]at h;cases h;rw[UF h2];rfl
def xt:List CI→Option (List CI×CI×List CI)
 |[]=>none
 |c::l=>bif Nat.beq c.op.cls 4 then some ([],c,l)else match xt l with
  |some (a,s,b)=>some (c::a,s,b)
  |none=>none
theorem Od:∀ {l a b:List CI} {s:CI},xt l=some (a,s,b)→l=a++s::b∧s.op.cls=4
 |[],_,_,_,h=>by cases h
 |c::l,a,b,s,h=>by
  simp only[xt]at h
  cases q:Nat.beq c.op.cls 4 with
  |true=>rw[q]at h;cases h;exact⟨rfl,ZB q⟩
  |false=>
   rw[q]at h
   simp only[cond_false]at h
   cases h2:xt l with
   |none=>rw[h2]at h;cases h
   |some p=>
    obtain⟨a',s',b'⟩:=p
    rw[h2]at h
    cases h
    obtain⟨e,e2⟩:=Od h2
    exact⟨by rw[e];rfl,e2⟩
theorem axK{P:Program}[Glob P]{cfg:Nat→Nat}{d:Option Nat}{rg:ag}{σ:Store}{K K':AV→Store→Prop}{E E':List PanicEntry→Store→Prop}{op:aw}(h4:op.cls=4)(hk:∀ x σ',K x σ'→K' x σ')(h:aj P cfg d rg σ K E op):aj P cfg d rg σ K' E' op:=by
 cases op<;>simp only[aw.cls,reduceCtorEq,Nat.reduceEqDiff,Nat.zero_ne_add_one]at h4
 ·simp only[aj]at h ⊢
  split at h
  ·exact⟨h.1,fun e=>hk _ _ (h.2.1 e),fun e b u c hu=>hk _ _ (h.2.2 e b u c hu)⟩
  ·exact⟨h.1,h.2.1,h.2.2.1,h.2.2.2.1,fun b u c hu=>hk _ _ (h.2.2.2.2 b u c hu)⟩
  ·exact⟨h.1,h.2.1,fun e=>hk _ _ (h.2.2.1 e),fun e b u c=>hk _ _ (h.2.2.2 e b u c)⟩
  ·exact h.elim
 ·exact lG.mono h hk
def Ab(P:Program)[Glob P](cfg:Nat→Nat)(l2:List CI)(K:ag→Store→Prop)(rg:ag)(σ:Store):Prop:=cZ P cfg [] (bare l2) (Cl K) rg σ
def wZ(P:Program)[Glob P](cfg:Nat→Nat)(K:ag→Store→Prop)(s:CI)(l2:List CI)(rg:ag)(σ:Store):Prop:=fg P cfg [s] (Ab P cfg l2 K) (fun _ _=>False) rg σ
theorem WB{P:Program}[Glob P]{N:Nat}{l1 l2:List CI}{s:CI}{Q:Exit→ag→Store→Prop}{rg:ag}{σ:Store}(cfg:Nat→Nat)(h4:s.op.cls=4)(fJ:ue (l1++s::l2) l1.length=true)(nj:s.g=none)
  (h:cZ P cfg [] (bare l1) (wZ P cfg (Q .normal) s l2) rg σ):SW P N (.dV (l1++s::l2)) Q rg σ:=by
 refine C4 (Ww cfg (.inl h4) fJ nj fun hc=> ?_)
 have Bf:=CN l1 rg (fun c h=>hc c (by simp[h])) h
 obtain⟨xs,h1,⟨cQ,hM,h3⟩,h4'⟩:=Vq l1 rg rg (fun _=>rfl) (fun c h=>hc c (by simp[h])) h
 refine⟨xs,h1,h4',?_,Bf⟩
 rw[← rV (rg:=cQ) (fun t _=>h3 t)]
 simp only[wZ,fg,dO,nj]at hM
 refine axK h4 (fun x σ' hx=> ?_) hM
 exact CM l2 _ _ (yA h3 s.d x) (fun c h=>hc c (by simp[h])) hx
theorem aaB{l l1 l2:List CI}{s:CI}(hl:xt l=some (l1,s,l2))(fJ:ue l l1.length=true)(nj:s.g=none)(hx:toXO rg=some xr)
  (h:VY P cfg [] (bare l1) (wZ P cfg (FK P N cfg Q .normal k) s l2) xr σ):WK P N cfg Q (.dV l) k rg σ:=by
 obtain⟨e,h4⟩:=Od hl
 subst e
 refine⟨WA.mono (Q:=fun e=>FK P N cfg Q e k) ⟨rfl,WB cfg h4 fJ nj ?_⟩ fun _ _ _ h=>h.h⟩
 have:=h.h
 rw[← wq hx,uS]at this
 exact this
theorem aai{K:ag→Store→Prop}{s:CI}{l2:List CI}(h:VX P cfg [s] (Ab P cfg l2 K) (fun _ _=>False) xr σ):VY P cfg [] [] (wZ P cfg K s l2) xr σ:=⟨h.h⟩
theorem Xj{K:ag→Store→Prop}{E:List PanicEntry→Store→Prop}{l2:List CI}(h:VY P cfg [] (bare l2) (Cl K) xr σ):VX P cfg [] (Ab P cfg l2 K) E xr σ:=⟨h.h⟩
end
end Go.Sx
