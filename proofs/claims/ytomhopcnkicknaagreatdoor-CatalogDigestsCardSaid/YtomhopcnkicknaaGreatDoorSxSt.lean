/-
  A region of open order with one call that turns the store: what the call reads, the call, what reads it.
-/
import Derived.Test.YtomhopcnkicknaaGreatDoorSxX
set_option linter.unusedVariables false
set_option linter.unusedSimpArgs false
set_option linter.unusedSectionVars false
namespace Go.Sx
open Go.RowKit
def wH(l:List CI)(a b:Nat):Bool:=match l[a]?,l[b]? with
 |some x,some y=>match x.d with
  |some t=>y.reads.elem t
  |none=>false
 |_,_=>false
def wQ(l:List CI)(k:Nat):Bool:=(List.range l.length).all fun j=>
 bif Nat.blt j k then(List.range (k+1)).any fun i=>Nat.blt j i && wH l j i
 else(Nat.beq j k || (List.range j).any fun i=>Nat.ble k i && wH l i j)
theorem PZ{l:List CI}{a b:Nat}(h:wH l a b=true):∃ (ha:a<l.length) (hb:b<l.length) (t:Nat),l[a].d=some t∧t∈l[b].reads:=by
 unfold wH at h
 grind
theorem aLG{l:List CI}{k j:Nat}(h:wQ l k=true)(hj:j<k)(hl:j<l.length):∃ i,j<i∧i≤k∧wH l j i=true:=by
 have:=Zx.1 h j (by grind)
 have e:Nat.blt j k=true:=Nat.ble_eq_true_of_le hj
 rw[e]at this
 obtain⟨i,h1,h2⟩:=YC.1 this
 rw[ZP]at h2
 exact⟨i,ZW h2.1,by grind,h2.2⟩
theorem aLF{l:List CI}{k j:Nat}(h:wQ l k=true)(hj:k<j)(hl:j<l.length):∃ i,k≤i∧i<j∧wH l i j=true:=by
 have:=Zx.1 h j (by grind)
 have e:Nat.blt j k=false:=by
  cases e:Nat.blt j k with
  |false=>rfl
  |true=>have:j+1≤k:=ZW e;omega
 have e2:Nat.beq j k=false:=by
  cases e:Nat.beq j k with
  |false=>rfl
  |true=>have:=Zm e;omega
 rw[e,e2]at this
 obtain⟨i,h1,h2⟩:=YC.1 this
 rw[ZP]at h2
 exact⟨i,ZW h2.1,Y6.1 h1,h2.2⟩
theorem z1:∀ (l l':List CI) (xs ys:List AV) (rg:ah),xs.length=l.length→dv (l++l') (xs++ys) rg=dv l' ys (dv l xs rg)
 |[],l',[],ys,rg,_=>by rfl
 |c::l,l',x::xs,ys,rg,h=>by
  exact z1 l l' xs ys _ (by grind)
 |[],_,_::_,_,_,h=>by grind
 |_::_,_,[],_,_,h=>by grind
section
variable {P:Program}[Glob P]{M:Mem}{w0:Base}{w:World}{σ:Store}{rg:ah}{a:Act}{cfg:Nat→Nat}{N:Nat}
theorem SL{l1 l2:List CI}{s:CI}{Q:Exit→ah→Store→Prop}(cfg:Nat→Nat)(mA:s.op.cls=4∨uc (l1++s::l2) 0=none)(iu:wQ (l1++s::l2) l1.length=true)(nB:s.g=none)
  (h:(∀ c∈l1++s::l2,c.op.cls≤1∨(c.op.cls=4∧c.g=none))→∃ xs:List AV,xs.length=l1.length∧(∀ i (h:i<l1.length) (h':i<xs.length),QV P cfg l1[i] (dv (l1.take i) (xs.take i) rg) σ xs[i])∧
   ak P cfg s.d (dv l1 xs rg) σ (fun x af=>AP P cfg (fun ay=>Q .normal ay af) l2 (cr s.d x (dv l1 xs rg)) af) (fun _ _=>False) s.op∧(∀ c∈l1,c.op.cls≤1)):
  SW P N (.cG (l1++s::l2)) Q rg σ:=by
 intro c hc M w0 a w hI hR hN hD
 obtain⟨id,ops,rfl,hl,cy,tq⟩:=kC hc
 obtain⟨hlen,yF⟩:=Bk ops.toList _ hl
 obtain⟨xs,iz,hQ1,acL,yx⟩:=h (Lk cy)
 clear h
 obtain⟨k,hK⟩:∃ k,l1.length=k:=⟨_,rfl⟩
 have tC:k<(l1++s::l2).length:=by simp[hK]
 have Nf:(l1++s::l2)[k]=s:=by simp[← hK]
 have adi:∀ i,i≤k→(l1++s::l2).take i=l1.take i:=fun i hi=>by rw[YS (by omega)]
 have MZ:∀ i (h:i<k) (h':i<(l1++s::l2).length),(l1++s::l2)[i]=l1[i]'(by omega):=fun i h h'=>by simp[hK,h]
 have acY:(l1++s::l2).length=k+(1+l2.length):=by simp[hK];omega
 have hp4:∀ k',uc (l1++s::l2) 0=some k'→k'=k:=by
  intro k' h4
  rcases mA with mA|mA
  case inr=>rw[mA]at h4;cases h4
  obtain⟨i,hi,e,h4,tF⟩:=Ia _ _ h4
  rcases Yb i k with h|h|h
  ·exfalso
   rw[MZ i h hi]at h4
   have:=yx _ (Zf (show i<l1.length by omega))
   omega
  ·omega
  ·exfalso
   exact tF k h tC (by rw[Nf];exact mA)
 rw[hK]at iu
 generalize hL:l1++s::l2=l at *
 have hk:=tC
 have yQ:=Nf
 have NI:=adi
 have acT:=MZ
 have rz:l.length=ops.size:=by simpa using hlen
 have acZ:(l.map (·.d)).Nodup∧∀ x∈(l.zip ops.toList).zipIdx,(x.1.2.after.all fun e=> !Region.binds .any e || decide (e.on<x.2))=true∧
   (x.1.1.reads.all fun t=>match posOf t (l.map (·.d)) 0 with
    |some j=>(x.1.2.after.any fun e=>Region.binds .any e && e.on == j) || (Nat.ble x.2 k && Nat.blt k j)
    |none=>true)=true:=by
  rcases cy with cy|cy
  ·unfold pI at cy
   simp only[ZP,Zn]at cy
   obtain⟨⟨hnd,_⟩,oC⟩:=cy
   rw[Zx]at oC
   refine⟨hnd,fun x hx=> ?_⟩
   have:=oC x hx
   simp only[ZP]at this
   refine⟨this.1,Zx.2 fun t ht=> ?_⟩
   have h3:=Zx.1 this.2 t ht
   split at h3
   ·rename_i j e;simp only[e];rw[h3];rfl
   ·rename_i e;simp only[e]
  ·unfold pJ at cy
   split at cy
   ·cases cy
   ·rename_i k' e
    simp only[ZP,Zn]at cy
    obtain⟨⟨hnd,_⟩,oC⟩:=cy
    rw[Zx]at oC
    have e':=hp4 k' e
    subst e'
    refine⟨hnd,fun x hx=> ?_⟩
    have:=oC x hx
    simp only[ZP]at this
    exact this
 obtain⟨hnd,oC⟩:=acZ
 have eX:∀ i (hi:i<l.length) (ho:i<ops.size),(∀ e∈ops[i].after,Region.binds .any e=true→e.on<i)∧∀ t∈l[i].reads,(∀ c∈l,c.d≠some t)∨(∃ j,∃ hj:j<l.length,l[j].d=some t∧j<i∧∃ e∈ops[i].after,Region.binds .any e=true∧e.on=j)∨
   ∃ j,∃ hj:j<l.length,l[j].d=some t∧i≤k∧k<j:=by
  intro i hi ho
  have hm:((l[i],ops[i]),i)∈(l.zip ops.toList).zipIdx:=by
   rw[List.mem_zipIdx_iff_getElem?]
   simp[List.getElem?_zip_eq_some,hi,ho]
  obtain⟨h1,h2⟩:=oC _ hm
  have hb:∀ e∈ops[i].after,Region.binds .any e=true→e.on<i:=by
   intro e he kK
   have:=ZD.1 h1 e he
   simpa[kK]using this
  refine⟨hb,fun t ht=> ?_⟩
  have h3:=Zx.1 h2 t ht
  split at h3
  ·rename_i j hj
   right
   have mz:j<l.length∧(l.map (·.d))[j]? =some (some t):=by
    obtain⟨i',h5,h6⟩:=Ic _ _ hj
    obtain rfl:j=i':=by omega
    exact⟨by have:=(ZE.1 h6).1;simpa using this,h6⟩
   obtain⟨pO,kM⟩:=mz
   rw[YU]at h3
   rcases h3 with h3|h3
   ·left
    rw[X0]at h3
    obtain⟨m,js,h4⟩:=h3
    simp only[ZP,beq_iff_eq]at h4
    refine⟨j,pO,by simpa[pO]using kM,?_,ops[i].after[m],Yo js,h4.1,h4.2⟩
    rw[← h4.2]
    exact hb _ (Yo js) h4.1
   ·right
    rw[ZP]at h3
    exact⟨j,pO,by simpa[pO]using kM,ZW h3.1,ZW h3.2⟩
  ·rename_i hj
   left
   intro c hc e
   exact Ib _ _ hj (by rw[← e];exact Yz hc)
 have vy:∀ (XS:List AV) (hX:XS.length=l.length) j (h:j<l.length) t,l[j].d=some t→lk (dv l XS rg) t=XS[j]'(by omega):=fun XS hX j h t ht=>zN l XS rg hnd hX j h (by omega) t ht
 have vz:∀ (XS:List AV) t,(∀ c∈l,c.d≠some t)→lk (dv l XS rg) t=lk rg t:=fun XS t ht=>tV l XS rg t ht
 have Ct:∀ j j' t,(hj:j<l.length)→(dK:j'<l.length)→l[j].d=some t→l[j'].d=some t→j=j':=by
  intro j j' t hj dK cI vO
  have ny:=YL.1 hnd
  rcases Yb j j' with h|h|h
  ·exact((ny j j' (by simpa using hj) (by simpa using dK) h) (by simp[cI,vO])).elim
  ·exact h
  ·exact((ny j' j (by simpa using dK) (by simpa using hj) h) (by simp[cI,vO])).elim
 refine ES tq ?_
 have main:∀ (fuel:Nat) (listed:Array Bool) (a:Act) (w:World),listed.size=ops.size→((List.range ops.size).filter (fun i=> !listed.getD i true)).length≤fuel→
   (∃ M2 jF XS,∃ hX:XS.length=l.length,M.le M2∧Inv P M2 w0 jF w∧a.tmps.size=N∧a.defers=Glob.df P∧(∀ t,(∀ j (h:j<l.length),listed.getD j true=true→l[j].d≠some t)→R M2 (lk rg t) (a.tmps.getD t undef))∧
    (∀ j (h:j<l.length) t,listed.getD j true=true→l[j].d=some t→R M2 (XS[j]'(by omega)) (a.tmps.getD t undef))∧
    (∀ j (h:j<l.length),listed.getD j true=true→∀ t∈l[j].reads,∀ i (hi:i<l.length),l[i].d=some t→i<j→listed.getD i true=true)∧
    (((∀ j,k≤j→j<l.length→listed.getD j true=false)∧jF=σ∧XS.take k=xs)∨
     ((∀ j,j≤k→listed.getD j true=true)∧(∃ fP,Q .normal fP jF∧∀ i,lk fP i=lk (dv l XS rg) i)∧∀ j (h:j<l.length),k<j→QV P cfg l[j] (dv (l.take j) (XS.take j) rg) jF (XS[j]'(by omega)))))→
   wpAny P .any ops (jJ P M w0 N Q) fuel listed a w:=by
  have fin:∀ (listed:Array Bool) (a:Act) (w:World),(∀ i,i<ops.size→listed.getD i true=true)→(∃ M2 jF XS,∃ hX:XS.length=l.length,M.le M2∧Inv P M2 w0 jF w∧a.tmps.size=N∧a.defers=Glob.df P∧(∀ t,(∀ j (h:j<l.length),listed.getD j true=true→l[j].d≠some t)→R M2 (lk rg t) (a.tmps.getD t undef))∧
    (∀ j (h:j<l.length) t,listed.getD j true=true→l[j].d=some t→R M2 (XS[j]'(by omega)) (a.tmps.getD t undef))∧
    (∀ j (h:j<l.length),listed.getD j true=true→∀ t∈l[j].reads,∀ i (hi:i<l.length),l[i].d=some t→i<j→listed.getD i true=true)∧
    (((∀ j,k≤j→j<l.length→listed.getD j true=false)∧jF=σ∧XS.take k=xs)∨
     ((∀ j,j≤k→listed.getD j true=true)∧(∃ fP,Q .normal fP jF∧∀ i,lk fP i=lk (dv l XS rg) i)∧∀ j (h:j<l.length),k<j→QV P cfg l[j] (dv (l.take j) (XS.take j) rg) jF (XS[j]'(by omega)))))→jJ P M w0 N Q .normal a w:=by
   rintro listed a w cH ⟨M2,jF,XS,hX,g1,g2,g3,g4,g5,g6,g7,⟨h1,_,_⟩|⟨h1,⟨fP,FL,hF⟩,h3⟩⟩
   ·exfalso
    have:=cH k (by omega)
    rw[h1 k (ZR _) hk]at this
    cases this
   ·refine⟨M2,fP,jF,g1,g2,fun t=> ?_,g3,g4,FL⟩
    rw[hF]
    by_cases ht:∃ j,∃ h:j<l.length,l[j].d=some t
    ·obtain⟨j,hj,cI⟩:=ht
     rw[vy XS hX j hj t cI]
     exact g6 j hj t (cH j (by omega)) cI
    ·have hn:∀ c∈l,c.d≠some t:=fun c hc e=>by
      obtain⟨j,hj,rfl⟩:=Y3.1 hc
      exact ht ⟨j,hj,e⟩
     rw[vz XS t hn]
     exact g5 t (fun j hj _=>hn _ (Zf hj))
  intro fuel
  induction fuel with
  |zero=>
   intro listed a w bC vK Co
   have cH:∀ i,i<ops.size→listed.getD i true=true:=by
    intro i hi
    cases nk:listed.getD i true with
    |true=>rfl
    |false=>
     have:i∈(List.range ops.size).filter (fun i=> !listed.getD i true):=by simp only[Zh,Y6,hi,nk,Xy,and_self]
     have:=List.length_pos_of_mem this
     omega
   refine⟨?_,fin listed a w cH Co⟩
   unfold Region.ready
   rw[Xz]
   intro i hi
   simp[cH i (by simpa using hi)]
  |succ fuel ih=>
   intro listed a w bC vK Co
   refine⟨fun hr=> ?_,fun i hi=> ?_⟩
   ·
    have cH:∀ i,i<ops.size→listed.getD i true=true:=by
     intro i
     induction i using Nat.strongRecOn with
     |_ i G6=>
      intro hi
      cases nk:listed.getD i true with
      |true=>rfl
      |false=>
       have:i∈Region.ready .any ops listed:=by
        unfold Region.ready
        rw[Zh]
        refine⟨by simpa using hi,?_⟩
        simp only[nk,Xy,Bool.true_and,ZH hi,Zc,Zu]
        rw[ZD]
        intro e he
        cases kK:Region.binds .any e with
        |false=>rfl
        |true=>
         have ax:=(eX i (by omega) hi).1 e he kK
         have:=G6 e.on ax (by omega)
         have h2:listed.getD e.on false=true:=by
          rw[ZT]at this ⊢
          rw[ZH (by omega)]at this ⊢
          exact this
         simp[h2]
       rw[hr]at this
       cases this
    exact fin listed a w cH Co
   ·unfold Region.ready at hi
    rw[Zh]at hi
    obtain⟨ni,iV⟩:=hi
    have fL:i<ops.size:=by simpa using ni
    simp only[ZP,YP,ZH fL,Zc,Zu]at iV
    obtain⟨pR,vL⟩:=iV
    have bp:i<l.length:=by omega
    have oB:pF P N ops ops[i]=some l[i]:=by have:=yF i (by simpa using fL) bp;simpa using this
    obtain⟨jO,ax⟩:=xW oB
    obtain⟨M2,jF,XS,hX,g1,g2,g3,g4,g5,g6,g7,g8⟩:=Co
    have jT:∀ t∈l[i].reads,∀ j (hj:j<l.length),l[j].d=some t→j<i→listed.getD j true=true:=by
     intro t ht j hj cI aNm
     rcases(eX i bp fL).2 t ht with hn|⟨j',dK,vO,jP,e,he,kK,F6⟩|⟨j',dK,vO,pP,c9⟩
     ·exact absurd cI (hn _ (Zf hj))
     ·have yL:=Ct j j' t hj dK cI vO
      subst yL
      have:=ZD.1 vL e he
      simp only[kK,Bool.not_true,Bool.false_or,F6]at this
      rw[ZT]at this ⊢
      rw[ZH (by omega)]at this ⊢
      exact this
     ·have yL:=Ct j j' t hj dK cI vO
      omega
    have kJ:bW M2 (Sx.gB l[i].reads (dv (l.take i) (XS.take i) rg)) a:=by
     intro t
     by_cases ht:t∈l[i].reads
     ·rw[uO.CQ ht]
      have ax:∀ j (hj:j<l.length),l[j].d=some t→i<j→lk (dv (l.take i) (XS.take i) rg) t=lk rg t:=fun j hj cI fV=>
       tV _ _ _ _ (fun c hc e=>by
        obtain⟨m,hm,rfl⟩:=Y3.1 hc
        simp only[Z4]at hm
        rw[List.getElem_take]at e
        have:=Ct m j t (by omega) hj e cI
        omega)
      rcases(eX i bp fL).2 t ht with hn|⟨j,hj,cI,jP,_⟩|⟨j,hj,cI,pP,c9⟩
      ·rw[tV _ _ _ _ (fun c hc=>hn c (YZ hc))]
       exact g5 t (fun j hj _=>hn _ (Zf hj))
      ·have e1:(l.take i)[j]'(by simp;omega)=l[j]:=by simp
       have e2:(XS.take i)[j]'(by simp;omega)=XS[j]'(by omega):=by simp
       rw[zN (l.take i) (XS.take i) rg (by rw[List.map_take];exact hnd.sublist (List.take_sublist _ _)) (by simp[hX]) j (by simp;omega) (by simp;omega) t (by rw[e1];exact cI),e2]
       exact g6 j hj t (jT t ht j hj cI jP) cI
      ·rw[ax j hj cI (by omega)]
       refine g5 t (fun j' dK fj e=> ?_)
       have:=Ct j' j t dK hj e cI
       subst this
       rcases g8 with⟨h1,_,_⟩|⟨h1,_,_⟩
       ·rw[h1 j' (by omega) dK]at fj;cases fj
       ·rw[h1 i pP]at pR;cases pR
     ·rw[uO.OH ht];exact .any _
    have tp:∀ t∈l[i].reads,lk (dv (l.take i) (XS.take i) rg) t=lk (Sx.gB l[i].reads (dv (l.take i) (XS.take i) rg)) t:=fun t ht=>by
     rw[uO.CQ ht]
    have step:∀ M3 (x:AV) af v w' py (yo:py.length=l.length),M2.le M3→Inv P M3 w0 af w'→R M3 x v→py[i]'(by omega)=x→(∀ j (hj:j<l.length),listed.getD j true=true→py[j]'(by omega)=XS[j]'(by omega))→
      (((∀ j,k≤j→j<l.length→(listed.setIfInBounds i true).getD j true=false)∧af=σ∧py.take k=xs)∨
       ((∀ j,j≤k→(listed.setIfInBounds i true).getD j true=true)∧(∃ fP,Q .normal fP af∧∀ i,lk fP i=lk (dv l py rg) i)∧∀ j (h:j<l.length),k<j→QV P cfg l[j] (dv (l.take j) (py.take j) rg) af (py[j]'(by omega))))→
      wpAny P .any ops (jJ P M w0 N Q) fuel (listed.setIfInBounds i true) (a.put ops[i].dst v) w':=by
     intro M3 x af v w' py yo hM aS hx vW hxj hph
     have pU:∀ j,j≠i→(listed.setIfInBounds i true).getD j true=listed.getD j true:=fun j hj=>by
      rw[ZT,Zp,Z6 (fun e=>hj e.symm),ZT]
     have y5:(listed.setIfInBounds i true).getD i true=true:=by
      rw[ZT,Zp];simp[bC,fL]
     refine ih _ _ _ (by simp[bC]) ?_ ⟨M3,af,py,yo,g1.trans hM,aS,by rw[Act.size_put];exact g3,by rw[Act.x2];exact g4,fun t ht=> ?_,fun j hj t jr cI=> ?_,fun j hj jr t ht j' dK cI M7=> ?_,hph⟩
     ·have:=filter_lt (fun i=> !listed.getD i true) (fun k=> !(listed.setIfInBounds i true).getD k true) (List.range ops.size) (fun k _ hk=>by
       simp only[YP]at hk ⊢
       by_cases B8:k=i
       ·subst B8;rw[y5]at hk;cases hk
       ·rw[pU k B8]at hk;exact hk) ⟨i,ni,by simpa using pR,by simp only[Bool.not_eq_false'];exact y5⟩
      omega
     ·have bB:ops[i].dst≠some t:=by rw[← jO];exact ht i bp y5
      have:=(g5 t (fun j hj hl=>ht j hj (by by_cases e:j=i;·subst e;exact y5
                                            ·rw[pU j e];exact hl))).mono hM
      have e:(a.put ops[i].dst v).tmps.getD t undef=a.tmps.getD t undef:=by
       cases hd:ops[i].dst with
       |none=>rfl
       |some u=>
        have tK:u≠t:=fun e=>bB (by rw[hd,e])
        simp[Act.put,YW tK]
      rw[e];exact this
     ·by_cases fV:j=i
      ·subst fV
       have hd:ops[j].dst=some t:=by rw[← jO];exact cI
       have GR:t<a.tmps.size:=by rw[g3];exact ax t cI
       have e:(a.put ops[j].dst v).tmps.getD t undef=v:=by simp[hd,Act.put,GR]
       rw[e,vW];exact hx
      ·have Cd:listed.getD j true=true:=by rw[← pU j fV];exact jr
       have:=(g6 j hj t Cd cI).mono hM
       have e:(a.put ops[i].dst v).tmps.getD t undef=a.tmps.getD t undef:=by
        cases hd:ops[i].dst with
        |none=>rfl
        |some u=>
         have tK:u≠t:=fun e=>by
          subst e
          have h1:l[i].d=some u:=jO.trans hd
          have ny:=YL.1 hnd
          rcases Yb i j with h|h|h
          ·exact ny i j (by simpa using bp) (by simpa using hj) h (by simp[h1,cI])
          ·exact fV h.symm
          ·exact ny j i (by simpa using hj) (by simpa using bp) h (by simp[h1,cI])
         simp[Act.put,YW tK]
       rw[e,hxj j hj Cd];exact this
     ·by_cases M9:j'=i
      ·subst M9;exact y5
      ·rw[pU j' M9]
       by_cases fV:j=i
       ·subst fV;exact jT t ht j' dK cI M7
       ·rw[pU j fV]at jr
        exact g7 j hj jr t ht j' dK cI M7
    unfold wpOp
    simp only[ZH fL]
    rcases g8 with⟨h1,rfl,h3⟩|⟨h1,h2,h3⟩
    ·
     have fm:∀ j (hj:j<k),XS[j]'(by omega)=xs[j]'(by omega):=fun j hj=>by subst h3;simp
     rcases Yb i k with lG|lG|lG
     ·have yU:QV P cfg l[i] (dv (l.take i) (XS.take i) rg) jF (XS[i]'(by omega)):=by
       have:=hQ1 i (by omega) (by omega)
       rw[NI i (by omega),acT i (by omega) bp,fm i lG]
       have e:XS.take i=xs.take i:=by rw[← h3,List.take_take,X4 (by omega)]
       rw[e];exact this
      have hq:=sx tp yU
      refine s4 (K:=fun y af=>y=XS[i]'(by omega)∧af=jF) (E:=fun _ _=>False) oB hq g2 kJ ⟨?_,fun _ _ _ _ _ _ h=>h.elim⟩
      rintro M3 x af v w' hM aS hx ⟨rfl,rfl⟩
      refine step M3 _ _ v w' XS hX hM aS hx rfl (fun _ _ _=>rfl) (.inl ⟨fun j hj mz=> ?_,rfl,h3⟩)
      rw[ZT,Zp,Z6 (by omega),← ZT]
      exact h1 j hj mz
     ·
      subst lG
      have cH:∀ d j,i-j=d→j<i→listed.getD j true=true:=by
       intro d
       induction d using Nat.strongRecOn with
       |_ d ihd=>
        intro j hd hj
        obtain⟨j',yL,aNl,nA⟩:=aLG iu hj (by omega)
        obtain⟨ha,hb,t,Cp,Cq⟩:=PZ nA
        by_cases e:j'=i
        ·subst e;exact jT t Cq j ha Cp yL
        ·exact g7 j' hb (ihd (i-j') (by omega) j' rfl (by omega)) t Cq j ha Cp yL
      have hv:dP P cfg l[i] (fun x af=>AP P cfg (fun ay=>Q .normal ay af) l2 (cr s.d x (dv l1 xs rg)) af) (fun _ _=>False) (Sx.gB l[i].reads (dv (l.take i) (XS.take i) rg)) jF:=by
       have e0:l.take i=l1:=by rw[NI i (ZR _),ZU (by omega)]
       rw[e0,h3]at tp ⊢
       rw[yQ]at tp ⊢
       unfold dP
       rw[nB]
       dsimp only
       rw[← qB (fun t ht=>tp t (ZK _ ht))]
       exact acL
      refine s4 (E:=fun _ _=>False) oB hv g2 kJ ⟨?_,fun _ _ _ _ _ _ h=>h.elim⟩
      rintro M3 x af v w' hM aS hx ⟨ys,tO,⟨fP,FL,hF⟩,My⟩
      have oI:=acY
      have G0:xs.length=i:=by omega
      have yo:(xs++x::ys).length=l.length:=by simp[iz,tO,oI];omega
      refine step M3 x af v w' (xs++x::ys) yo hM aS hx (by rw[Y8 (by omega)];simp[G0]) (fun j hj jr=> ?_) (.inr ⟨fun j hj=> ?_,⟨fP,FL,fun t=> ?_⟩,fun j hj Nb=> ?_⟩)
      ·have jP:j<i:=by
        rcases YF j i with h|h
        ·exact h
        ·rw[h1 j h hj]at jr;cases jr
       rw[fm j jP,Y4 (by omega)]
      ·by_cases e:j=i
       ·subst e;rw[ZT,Zp];simp[bC,fL]
       ·rw[ZT,Zp,Z6 (fun h=>e h.symm),← ZT]
        exact cH _ j rfl (by omega)
      ·rw[hF,← hL,z1 l1 (s::l2) xs (x::ys) rg (by omega)];rfl
      ·have kM:j-i-1<l2.length:=by omega
       have:=My (j-i-1) kM (by omega)
       have e1:l[j]=l2[j-i-1]:=by
        simp only[← hL]
        rw[Y8 (by omega)]
        simp only[hK]
        rw[List.getElem_cons,dif_neg (by omega)]
       have e2:(xs++x::ys)[j]'(by rw[yo];exact hj)=ys[j-i-1]'(by omega):=by
        rw[Y8 (by omega)]
        simp only[G0]
        rw[List.getElem_cons,dif_neg (by omega)]
       have e3:l.take j=l1++s::l2.take (j-i-1):=by
        rw[← hL,List.take_append,ZU (by omega),hK]
        congr 1
        obtain⟨m,hm⟩:∃ m,j-i=m+1:=⟨j-i-1,by omega⟩
        rw[hm];rfl
       have e4:(xs++x::ys).take j=xs++x::ys.take (j-i-1):=by
        rw[List.take_append,ZU (by omega),G0]
        congr 1
        obtain⟨m,hm⟩:∃ m,j-i=m+1:=⟨j-i-1,by omega⟩
        rw[hm];rfl
       rw[e1,e2,e3,e4,z1 l1 _ xs _ rg (by omega)]
       exact this
     ·exfalso
      obtain⟨j',pO,kM,nA⟩:=aLF iu lG bp
      obtain⟨ha,hb,t,Cp,Cq⟩:=PZ nA
      have:=jT t Cq j' ha Cp kM
      rw[h1 j' pO ha]at this
      cases this
    ·
     have lG:k<i:=by
      rcases YF k i with h|h
      ·exact h
      ·rw[h1 i h]at pR;cases pR
     have hq:=sx tp (h3 i bp lG)
     refine s4 (K:=fun y af=>y=XS[i]'(by omega)∧af=jF) (E:=fun _ _=>False) oB hq g2 kJ ⟨?_,fun _ _ _ _ _ _ h=>h.elim⟩
     rintro M3 x af v w' hM aS hx ⟨rfl,rfl⟩
     refine step M3 _ _ v w' XS hX hM aS hx rfl (fun _ _ _=>rfl) (.inr ⟨fun j hj=> ?_,h2,h3⟩)
     rw[ZT,Zp,Z6 (by omega),← ZT]
     exact h1 j hj
 refine main ops.size _ a _ (by simp) ?_ ⟨M,σ,xs++List.replicate (l.length-k) .any,by simp;omega,Mem.le.refl _,hI.ly,hN,hD,fun t _=>hR t,fun j hj t jr _=> ?_,fun j hj jr=> ?_,.inl ⟨fun j _ hj=> ?_,rfl,by rw[YS (by omega),ZU (by omega)]⟩⟩
 ·exact ZJ (Yw _ _) (by simp)
 ·exfalso
  have tB:j<ops.size:=by omega
  simp[tB]at jr
 ·exfalso
  have tB:j<ops.size:=by omega
  simp[tB]at jr
 ·have tB:j<ops.size:=by omega
  simp[tB]
theorem Rz{K:ah→Store→Prop}:∀ (l:List CI) (rg fD:ah),(∀ i,lk rg i=lk fD i)→(∀ c∈l,c.op.cls≤1∨(c.op.cls=4∧c.g=none))→ef P cfg [] (bare l) K rg σ→
  ∃ xs:List AV,xs.length=l.length∧(∃ ay,K ay σ∧∀ i,lk ay i=lk (dv l xs fD) i)∧∀ i (h:i<l.length) (h':i<xs.length),QV P cfg l[i] (dv (l.take i) (xs.take i) fD) σ xs[i]:=Au
end
section
variable {P:Program}[Glob P]{N:Nat}{cfg:Nat→Nat}{Q:Exit→ah→Store→Prop}{rg:ah}{σ:Store}{k:List Fr}{xr:XR}
def Ai(d:Nat):List CI→Option (List CI×CI×List CI)
 |[]=>none
 |c::l=>bif (match c.d with|some e=>Nat.beq e d|none=>false)then some ([],c,l)else match Ai d l with
  |some (a,s,b)=>some (c::a,s,b)
  |none=>none
theorem QF{d:Nat}:∀ {l a b:List CI} {s:CI},Ai d l=some (a,s,b)→l=a++s::b
 |[],_,_,_,h=>by cases h
 |c::l,a,b,s,h=>by
  simp only[Ai]at h
  generalize (match c.d with|some e=>Nat.beq e d|none=>false)=q at h
  cases q with
  |true=>grind
  |false=>
   cases h2:Ai d l with
   |none=>grind
   |some p=>rw[h2]at h;cases h;rw[QF h2];rfl
def u0:List CI→Option (List CI×CI×List CI)
 |[]=>none
 |c::l=>bif Nat.beq c.op.cls 4 then some ([],c,l)else match u0 l with
  |some (a,s,b)=>some (c::a,s,b)
  |none=>none
theorem KS:∀ {l a b:List CI} {s:CI},u0 l=some (a,s,b)→l=a++s::b∧s.op.cls=4
 |[],_,_,_,h=>by cases h
 |c::l,a,b,s,h=>by
  simp only[u0]at h
  cases q:Nat.beq c.op.cls 4 with
  |true=>simp_all
  |false=>
   rw[q]at h
   cases h2:u0 l with
   |none=>grind
   |some p=>
    obtain⟨e,e2⟩:=KS h2
    grind
theorem aML{P:Program}[Glob P]{cfg:Nat→Nat}{d:Option Nat}{rg:ah}{σ:Store}{K K':AV→Store→Prop}{E E':List PanicEntry→Store→Prop}{op:aB}(h4:op.cls=4)(hk:∀ x af,K x af→K' x af)(h:ak P cfg d rg σ K E op):ak P cfg d rg σ K' E' op:=by
 cases op<;>simp only[aB.cls,reduceCtorEq,Nat.reduceEqDiff,Nat.zero_ne_add_one]at h4
 ·simp only[ak]at h ⊢
  split at h
  ·grind
  ·grind
  ·grind
  grind
 ·exact jf.mono h hk
def xF(P:Program)[Glob P](cfg:Nat→Nat)(l2:List CI)(K:ah→Store→Prop)(rg:ah)(σ:Store):Prop:=ef P cfg [] (bare l2) (Cl K) rg σ
def uM(P:Program)[Glob P](cfg:Nat→Nat)(K:ah→Store→Prop)(s:CI)(l2:List CI)(rg:ah)(σ:Store):Prop:=fF P cfg [s] (xF P cfg l2 K) (fun _ _=>False) rg σ
theorem SP{P:Program}[Glob P]{N:Nat}{l1 l2:List CI}{s:CI}{Q:Exit→ah→Store→Prop}{rg:ah}{σ:Store}(cfg:Nat→Nat)(h4:s.op.cls=4)(iu:wQ (l1++s::l2) l1.length=true)(nB:s.g=none)
  (h:ef P cfg [] (bare l1) (uM P cfg (Q .normal) s l2) rg σ):SW P N (.cG (l1++s::l2)) Q rg σ:=by
 refine AZ (SL cfg (.inl h4) iu nB fun hc=> ?_)
 have yx:=Av l1 rg (fun c h=>hc c (by simp[h])) h
 obtain⟨xs,h1,⟨jy,hM,h3⟩,h4'⟩:=Rz l1 rg rg (fun _=>rfl) (fun c h=>hc c (by simp[h])) h
 refine⟨xs,h1,h4',?_,yx⟩
 rw[← qB (rg:=jy) (fun t _=>h3 t)]
 simp only[uM,fF,dP,nB]at hM
 refine aML h4 (fun x af hx=> ?_) hM
 exact Au l2 _ _ (zM h3 s.d x) (fun c h=>hc c (by simp[h])) hx
theorem Ud{l l1 l2:List CI}{s:CI}(hl:u0 l=some (l1,s,l2))(iu:wQ l l1.length=true)(nB:s.g=none)(hx:toXO rg=some xr)
  (h:VY P cfg [] (bare l1) (uM P cfg (FK P N cfg Q .normal k) s l2) xr σ):WK P N cfg Q (.cG l) k rg σ:=by
 obtain⟨e,h4⟩:=KS hl
 subst e
 refine⟨WA.mono (Q:=fun e=>FK P N cfg Q e k) ⟨rfl,SP cfg h4 iu nB ?_⟩ fun _ _ _ h=>h.h⟩
 have:=h.h
 rw[← wV hx,vd]at this
 grind
theorem TS{K:ah→Store→Prop}{s:CI}{l2:List CI}(h:VX P cfg [s] (xF P cfg l2 K) (fun _ _=>False) xr σ):VY P cfg [] [] (uM P cfg K s l2) xr σ:=⟨h.h⟩
theorem Tq{K:ah→Store→Prop}{E:List PanicEntry→Store→Prop}{l2:List CI}(h:VY P cfg [] (bare l2) (Cl K) xr σ):VX P cfg [] (xF P cfg l2 K) E xr σ:=⟨h.h⟩
end
end Go.Sx
