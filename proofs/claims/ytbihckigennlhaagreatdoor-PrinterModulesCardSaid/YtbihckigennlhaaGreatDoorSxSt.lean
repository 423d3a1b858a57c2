/-
  A region of open order with one call that turns the store: what the call reads, the call, what reads it.
-/
import Derived.Test.YtbihckigennlhaaGreatDoorSxX3
set_option linter.unusedVariables false
set_option linter.unusedSimpArgs false
set_option linter.unusedSectionVars false
namespace Go.Sx
open Go.RowKit
def we(l:List CI)(a b:Nat):Bool:=match l[a]?,l[b]? with
 |some x,some y=>match x.d with
  |some t=>y.reads.elem t
  |none=>false
 |_,_=>false
def rC(l:List CI)(k:Nat):Bool:=(List.range l.length).all fun j=>
 bif Nat.blt j k then(List.range (k+1)).any fun i=>Nat.blt j i && we l j i
 else(Nat.beq j k || (List.range j).any fun i=>Nat.ble k i && we l i j)
theorem N9{l:List CI}{a b:Nat}(h:we l a b=true):∃ (ha:a<l.length) (hb:b<l.length) (t:Nat),l[a].d=some t∧t∈l[b].reads:=by
 unfold we at h
 split at h
 ·rename_i x y hx hy
  obtain⟨h1,h2⟩:=ZN.1 hx
  obtain⟨h3,h4⟩:=ZN.1 hy
  split at h
  ·rename_i t ht
   exact⟨h1,h3,t,by rw[h2];exact ht,by rw[h4];exact List.elem_iff.1 h⟩
  ·cases h
 ·cases h
theorem ax9{l:List CI}{k j:Nat}(h:rC l k=true)(hj:j<k)(hl:j<l.length):∃ i,j<i∧i≤k∧we l j i=true:=by
 unfold rC at h
 have:=ZF.1 h j (by simpa using hl)
 have e:Nat.blt j k=true:=Nat.ble_eq_true_of_le hj
 rw[e]at this
 obtain⟨i,h1,h2⟩:=Yg.1 this
 rw[Z0]at h2
 exact⟨i,Z8 h2.1,by have:=Y5.1 h1;omega,h2.2⟩
theorem ax8{l:List CI}{k j:Nat}(h:rC l k=true)(hj:k<j)(hl:j<l.length):∃ i,k≤i∧i<j∧we l i j=true:=by
 unfold rC at h
 have:=ZF.1 h j (by simpa using hl)
 have e:Nat.blt j k=false:=by
  cases e:Nat.blt j k with
  |false=>rfl
  |true=>have:j+1≤k:=Z8 e;omega
 have e2:Nat.beq j k=false:=by
  cases e:Nat.beq j k with
  |false=>rfl
  |true=>have:=ZL e;omega
 rw[e,e2]at this
 obtain⟨i,h1,h2⟩:=Yg.1 this
 rw[Z0]at h2
 exact⟨i,Z8 h2.1,Y5.1 h1,h2.2⟩
theorem yT:∀ (l l':List CI) (xs ys:List AV) (rg:ae),xs.length=l.length→db (l++l') (xs++ys) rg=db l' ys (db l xs rg)
 |[],l',[],ys,rg,_=>by simp[db]
 |c::l,l',x::xs,ys,rg,h=>by
  simp only[ZD,db]
  exact yT l l' xs ys _ (by simpa using h)
 |[],_,_::_,_,_,h=>by simp at h
 |_::_,_,[],_,_,h=>by simp at h
section
variable {P:Program}[Glob P]{M:Mem}{w0:Base}{w:World}{σ:Store}{rg:ae}{a:Act}{cfg:Nat→Nat}{N:Nat}
theorem Qx{l1 l2:List CI}{s:CI}{Q:Exit→ae→Store→Prop}(cfg:Nat→Nat)(yn:s.op.cls=4∨tJ (l1++s::l2) 0=none)(eZ:rC (l1++s::l2) l1.length=true)(lK:s.g=none)
  (h:(∀ c∈l1++s::l2,c.op.cls≤1∨(c.op.cls=4∧c.g=none))→∃ xs:List AV,xs.length=l1.length∧(∀ i (h:i<l1.length) (h':i<xs.length),QV P cfg l1[i] (db (l1.take i) (xs.take i) rg) σ xs[i])∧
   aj P cfg s.d (db l1 xs rg) σ (fun x σ'=>Ad P cfg (fun rg'=>Q .normal rg' σ') l2 (bM s.d x (db l1 xs rg)) σ') (fun _ _=>False) s.op∧(∀ c∈l1,c.op.cls≤1)):
  SW P N (.azZ (l1++s::l2)) Q rg σ:=by
 intro c hc M w0 a w hI hR hN hD
 obtain⟨id,ops,rfl,hl,hok,o4⟩:=dO hc
 obtain⟨hlen,o5⟩:=Az ops.toList _ hl
 obtain⟨xs,oa,Xi,my,xW⟩:=h (JM hok)
 clear h
 obtain⟨k,hK⟩:∃ k,l1.length=k:=⟨_,rfl⟩
 have o7:k<(l1++s::l2).length:=by simp[hK]
 have Lt:(l1++s::l2)[k]=s:=by simp[← hK]
 have aaJ:∀ i,i≤k→(l1++s::l2).take i=l1.take i:=fun i hi=>by rw[YQ (by omega)]
 have Lc:∀ i (h:i<k) (h':i<(l1++s::l2).length),(l1++s::l2)[i]=l1[i]'(by omega):=fun i h h'=>by simp[hK,h]
 have aap:(l1++s::l2).length=k+(1+l2.length):=by simp[hK];omega
 have jb:∀ k',tJ (l1++s::l2) 0=some k'→k'=k:=by
  intro k' h4
  rcases yn with yn|yn
  case inr=>rw[yn]at h4;cases h4
  obtain⟨i,hi,e,h4,yb⟩:=F4 _ _ h4
  rcases YB i k with h|h|h
  ·exfalso
   rw[Lc i h hi]at h4
   have:=xW _ (Y0 (show i<l1.length by omega))
   omega
  ·omega
  ·exfalso
   exact yb k h o7 (by rw[Lt];exact yn)
 rw[hK]at eZ
 generalize hL:l1++s::l2=l at *
 have hk:=o7
 have vn:=Lt
 have LR:=aaJ
 have aai:=Lc
 have qH:l.length=ops.size:=by simpa using hlen
 have aaq:(l.map (·.d)).Nodup∧∀ x∈(l.zip ops.toList).zipIdx,(x.1.2.after.all fun e=> !Region.binds .any e || decide (e.on<x.2))=true∧
   (x.1.1.reads.all fun t=>match posOf t (l.map (·.d)) 0 with
    |some j=>(x.1.2.after.any fun e=>Region.binds .any e && e.on == j) || (Nat.ble x.2 k && Nat.blt k j)
    |none=>true)=true:=by
  rcases hok with hok|hok
  ·unfold oV at hok
   simp only[Z0,ZB]at hok
   obtain⟨⟨hnd,_⟩,nK⟩:=hok
   rw[ZF]at nK
   refine⟨hnd,fun x hx=> ?_⟩
   have:=nK x hx
   simp only[Z0]at this
   refine⟨this.1,ZF.2 fun t ht=> ?_⟩
   have h3:=ZF.1 this.2 t ht
   split at h3
   ·rename_i j e;simp only[e];rw[h3];rfl
   ·rename_i e;simp only[e]
  ·unfold oW at hok
   split at hok
   ·cases hok
   ·rename_i k' e
    simp only[Z0,ZB]at hok
    obtain⟨⟨hnd,_⟩,nK⟩:=hok
    rw[ZF]at nK
    have e':=jb k' e
    subst e'
    refine⟨hnd,fun x hx=> ?_⟩
    have:=nK x hx
    simp only[Z0]at this
    exact this
 obtain⟨hnd,nK⟩:=aaq
 have ep:∀ i (hi:i<l.length) (ho:i<ops.size),(∀ e∈ops[i].after,Region.binds .any e=true→e.on<i)∧∀ t∈l[i].reads,(∀ c∈l,c.d≠some t)∨(∃ j,∃ hj:j<l.length,l[j].d=some t∧j<i∧∃ e∈ops[i].after,Region.binds .any e=true∧e.on=j)∨
   ∃ j,∃ hj:j<l.length,l[j].d=some t∧i≤k∧k<j:=by
  intro i hi ho
  have hm:((l[i],ops[i]),i)∈(l.zip ops.toList).zipIdx:=by
   rw[List.mem_zipIdx_iff_getElem?]
   simp[List.getElem?_zip_eq_some,hi,ho]
  obtain⟨h1,h2⟩:=nK _ hm
  have hb:∀ e∈ops[i].after,Region.binds .any e=true→e.on<i:=by
   intro e he jZ
   have:=ZM.1 h1 e he
   simpa[jZ]using this
  refine⟨hb,fun t ht=> ?_⟩
  have h3:=ZF.1 h2 t ht
  split at h3
  ·rename_i j hj
   right
   have hjl:j<l.length∧(l.map (·.d))[j]? =some (some t):=by
    obtain⟨i',h5,h6⟩:=F6 _ _ hj
    obtain rfl:j=i':=by omega
    exact⟨by have:=(ZN.1 h6).1;simpa using this,h6⟩
   obtain⟨lH,nN⟩:=hjl
   rw[Zl]at h3
   rcases h3 with h3|h3
   ·left
    rw[X7]at h3
    obtain⟨m,lJ,h4⟩:=h3
    simp only[Z0,beq_iff_eq]at h4
    refine⟨j,lH,by simpa[lH]using nN,?_,ops[i].after[m],Yz lJ,h4.1,h4.2⟩
    rw[← h4.2]
    exact hb _ (Yz lJ) h4.1
   ·right
    rw[Z0]at h3
    exact⟨j,lH,by simpa[lH]using nN,Z8 h3.1,Z8 h3.2⟩
  ·rename_i hj
   left
   intro c hc e
   exact F5 _ _ hj (by rw[← e];exact YT hc)
 have u4:∀ (XS:List AV) (hX:XS.length=l.length) j (h:j<l.length) t,l[j].d=some t→lk (db l XS rg) t=XS[j]'(by omega):=fun XS hX j h t ht=>yD l XS rg hnd hX j h (by omega) t ht
 have u5:∀ (XS:List AV) t,(∀ c∈l,c.d≠some t)→lk (db l XS rg) t=lk rg t:=fun XS t ht=>tw l XS rg t ht
 have Bn:∀ j j' t,(hj:j<l.length)→(ef:j'<l.length)→l[j].d=some t→l[j'].d=some t→j=j':=by
  intro j j' t hj ef cz vk
  have mG:=List.pairwise_iff_getElem.1 hnd
  rcases YB j j' with h|h|h
  ·exact((mG j j' (by simpa using hj) (by simpa using ef) h) (by simp[cz,vk])).elim
  ·exact h
  ·exact((mG j' j (by simpa using ef) (by simpa using hj) h) (by simp[cz,vk])).elim
 refine Dz o4 ?_
 have main:∀ (fuel:Nat) (listed:Array Bool) (a:Act) (w:World),listed.size=ops.size→((List.range ops.size).filter (fun i=> !listed.getD i true)).length≤fuel→
   (∃ M2 jt XS,∃ hX:XS.length=l.length,M.le M2∧Inv P M2 w0 jt w∧a.tmps.size=N∧a.defers=Glob.df P∧(∀ t,(∀ j (h:j<l.length),listed.getD j true=true→l[j].d≠some t)→R M2 (lk rg t) (a.tmps.getD t undef))∧
    (∀ j (h:j<l.length) t,listed.getD j true=true→l[j].d=some t→R M2 (XS[j]'(by omega)) (a.tmps.getD t undef))∧
    (∀ j (h:j<l.length),listed.getD j true=true→∀ t∈l[j].reads,∀ i (hi:i<l.length),l[i].d=some t→i<j→listed.getD i true=true)∧
    (((∀ j,k≤j→j<l.length→listed.getD j true=false)∧jt=σ∧XS.take k=xs)∨
     ((∀ j,j≤k→listed.getD j true=true)∧(∃ fG,Q .normal fG jt∧∀ i,lk fG i=lk (db l XS rg) i)∧∀ j (h:j<l.length),k<j→QV P cfg l[j] (db (l.take j) (XS.take j) rg) jt (XS[j]'(by omega)))))→
   wpAny P .any ops (gF P M w0 N Q) fuel listed a w:=by
  have fin:∀ (listed:Array Bool) (a:Act) (w:World),(∀ i,i<ops.size→listed.getD i true=true)→(∃ M2 jt XS,∃ hX:XS.length=l.length,M.le M2∧Inv P M2 w0 jt w∧a.tmps.size=N∧a.defers=Glob.df P∧(∀ t,(∀ j (h:j<l.length),listed.getD j true=true→l[j].d≠some t)→R M2 (lk rg t) (a.tmps.getD t undef))∧
    (∀ j (h:j<l.length) t,listed.getD j true=true→l[j].d=some t→R M2 (XS[j]'(by omega)) (a.tmps.getD t undef))∧
    (∀ j (h:j<l.length),listed.getD j true=true→∀ t∈l[j].reads,∀ i (hi:i<l.length),l[i].d=some t→i<j→listed.getD i true=true)∧
    (((∀ j,k≤j→j<l.length→listed.getD j true=false)∧jt=σ∧XS.take k=xs)∨
     ((∀ j,j≤k→listed.getD j true=true)∧(∃ fG,Q .normal fG jt∧∀ i,lk fG i=lk (db l XS rg) i)∧∀ j (h:j<l.length),k<j→QV P cfg l[j] (db (l.take j) (XS.take j) rg) jt (XS[j]'(by omega)))))→gF P M w0 N Q .normal a w:=by
   rintro listed a w aJb ⟨M2,jt,XS,hX,g1,g2,g3,g4,g5,g6,g7,⟨h1,_,_⟩|⟨h1,⟨fG,D9,hF⟩,h3⟩⟩
   ·exfalso
    have:=aJb k (by omega)
    rw[h1 k (ZI _) hk]at this
    cases this
   ·refine⟨M2,fG,jt,g1,g2,fun t=> ?_,g3,g4,D9⟩
    rw[hF]
    by_cases ht:∃ j,∃ h:j<l.length,l[j].d=some t
    ·obtain⟨j,hj,cz⟩:=ht
     rw[u4 XS hX j hj t cz]
     exact g6 j hj t (aJb j (by omega)) cz
    ·have hn:∀ c∈l,c.d≠some t:=fun c hc e=>by
      obtain⟨j,hj,rfl⟩:=Zd.1 hc
      exact ht ⟨j,hj,e⟩
     rw[u5 XS t hn]
     exact g5 t (fun j hj _=>hn _ (Y0 hj))
  intro fuel
  induction fuel with
  |zero=>
   intro listed a w hsz vd s6
   have aJb:∀ i,i<ops.size→listed.getD i true=true:=by
    intro i hi
    cases mE:listed.getD i true with
    |true=>rfl
    |false=>
     have:i∈(List.range ops.size).filter (fun i=> !listed.getD i true):=by simp only[YZ,Y5,hi,mE,XP,and_self]
     have:=List.length_pos_of_mem this
     omega
   refine⟨?_,fin listed a w aJb s6⟩
   unfold Region.ready
   rw[Yv]
   intro i hi
   simp[aJb i (by simpa using hi)]
  |succ fuel ih=>
   intro listed a w hsz vd s6
   refine⟨fun hr=> ?_,fun i hi=> ?_⟩
   ·
    have aJb:∀ i,i<ops.size→listed.getD i true=true:=by
     intro i
     induction i using Nat.strongRecOn with
     |_ i Fg=>
      intro hi
      cases mE:listed.getD i true with
      |true=>rfl
      |false=>
       have:i∈Region.ready .any ops listed:=by
        unfold Region.ready
        rw[YZ]
        refine⟨by simpa using hi,?_⟩
        simp only[mE,XP,Bool.true_and,ZQ hi,Zu,ZE]
        rw[ZM]
        intro e he
        cases jZ:Region.binds .any e with
        |false=>rfl
        |true=>
         have aH:=(ep i (by omega) hi).1 e he jZ
         have:=Fg e.on aH (by omega)
         have h2:listed.getD e.on false=true:=by
          rw[Z2]at this ⊢
          rw[ZQ (by omega)]at this ⊢
          exact this
         simp[h2]
       rw[hr]at this
       cases this
    exact fin listed a w aJb s6
   ·unfold Region.ready at hi
    rw[YZ]at hi
    obtain⟨sV,nM⟩:=hi
    have hio:i<ops.size:=by simpa using sV
    simp only[Z0,YV,ZQ hio,Zu,ZE]at nM
    obtain⟨ph,vg⟩:=nM
    have bz:i<l.length:=by omega
    have nJ:oT P N ops ops[i]=some l[i]:=by have:=o5 i (by simpa using hio) bz;simpa using this
    obtain⟨iZ,aH⟩:=xy nJ
    obtain⟨M2,jt,XS,hX,g1,g2,g3,g4,g5,g6,g7,g8⟩:=s6
    have jD:∀ t∈l[i].reads,∀ j (hj:j<l.length),l[j].d=some t→j<i→listed.getD j true=true:=by
     intro t ht j hj cz azO
     rcases(ep i bz hio).2 t ht with hn|⟨j',ef,vk,nO,e,he,jZ,Ew⟩|⟨j',ef,vk,gL,j1⟩
     ·exact absurd cz (hn _ (Y0 hj))
     ·have x8:=Bn j j' t hj ef cz vk
      subst x8
      have:=ZM.1 vg e he
      simp only[jZ,Bool.not_true,Bool.false_or,Ew]at this
      rw[Z2]at this ⊢
      rw[ZQ (by omega)]at this ⊢
      exact this
     ·have x8:=Bn j j' t hj ef cz vk
      omega
    have sK:bE M2 (Sx.eY l[i].reads (db (l.take i) (XS.take i) rg)) a:=by
     intro t
     by_cases ht:t∈l[i].reads
     ·rw[uD.Bx ht]
      have aH:∀ j (hj:j<l.length),l[j].d=some t→i<j→lk (db (l.take i) (XS.take i) rg) t=lk rg t:=fun j hj cz gu=>
       tw _ _ _ _ (fun c hc e=>by
        obtain⟨m,hm,rfl⟩:=Zd.1 hc
        simp only[ZT]at hm
        rw[List.getElem_take]at e
        have:=Bn m j t (by omega) hj e cz
        omega)
      rcases(ep i bz hio).2 t ht with hn|⟨j,hj,cz,nO,_⟩|⟨j,hj,cz,gL,j1⟩
      ·rw[tw _ _ _ _ (fun c hc=>hn c (List.mem_of_mem_take hc))]
       exact g5 t (fun j hj _=>hn _ (Y0 hj))
      ·have e1:(l.take i)[j]'(by simp;omega)=l[j]:=by simp
       have e2:(XS.take i)[j]'(by simp;omega)=XS[j]'(by omega):=by simp
       rw[yD (l.take i) (XS.take i) rg (by rw[XZ];exact hnd.sublist (List.take_sublist _ _)) (by simp[hX]) j (by simp;omega) (by simp;omega) t (by rw[e1];exact cz),e2]
       exact g6 j hj t (jD t ht j hj cz nO) cz
      ·rw[aH j hj cz (by omega)]
       refine g5 t (fun j' ef gd e=> ?_)
       have:=Bn j' j t ef hj e cz
       subst this
       rcases g8 with⟨h1,_,_⟩|⟨h1,_,_⟩
       ·rw[h1 j' (by omega) ef]at gd;cases gd
       ·rw[h1 i gL]at ph;cases ph
     ·rw[uD.MO ht];exact .any _
    have sU:∀ t∈l[i].reads,lk (db (l.take i) (XS.take i) rg) t=lk (Sx.eY l[i].reads (db (l.take i) (XS.take i) rg)) t:=fun t ht=>by
     rw[uD.Bx ht]
    have step:∀ M3 (x:AV) σ' v w' oN (xP:oN.length=l.length),M2.le M3→Inv P M3 w0 σ' w'→R M3 x v→oN[i]'(by omega)=x→(∀ j (hj:j<l.length),listed.getD j true=true→oN[j]'(by omega)=XS[j]'(by omega))→
      (((∀ j,k≤j→j<l.length→(listed.setIfInBounds i true).getD j true=false)∧σ'=σ∧oN.take k=xs)∨
       ((∀ j,j≤k→(listed.setIfInBounds i true).getD j true=true)∧(∃ fG,Q .normal fG σ'∧∀ i,lk fG i=lk (db l oN rg) i)∧∀ j (h:j<l.length),k<j→QV P cfg l[j] (db (l.take j) (oN.take j) rg) σ' (oN[j]'(by omega))))→
      wpAny P .any ops (gF P M w0 N Q) fuel (listed.setIfInBounds i true) (a.put ops[i].dst v) w':=by
     intro M3 x σ' v w' oN xP hM hI' hx Bp hxj hph
     have yo:∀ j,j≠i→(listed.setIfInBounds i true).getD j true=listed.getD j true:=fun j hj=>by
      rw[Z2,Zz,if_neg (fun e=>hj e.symm),Z2]
     have yq:(listed.setIfInBounds i true).getD i true=true:=by
      rw[Z2,Zz];simp[hsz,hio]
     refine ih _ _ _ (by simp[hsz]) ?_ ⟨M3,σ',oN,xP,g1.trans hM,hI',by rw[Act.size_put];exact g3,by rw[Act.xB];exact g4,fun t ht=> ?_,fun j hj t ja cz=> ?_,fun j hj ja t ht j' ef cz Lh=> ?_,hph⟩
     ·have:=filter_lt (fun i=> !listed.getD i true) (fun k=> !(listed.setIfInBounds i true).getD k true) (List.range ops.size) (fun k _ hk=>by
       simp only[YV]at hk ⊢
       by_cases Ln:k=i
       ·subst Ln;rw[yq]at hk;cases hk
       ·rw[yo k Ln]at hk;exact hk) ⟨i,sV,by simpa using ph,by simp only[Bool.not_eq_false'];exact yq⟩
      omega
     ·have aQ:ops[i].dst≠some t:=by rw[← iZ];exact ht i bz yq
      have:=(g5 t (fun j hj hl=>ht j hj (by by_cases e:j=i;·subst e;exact yq
                                            ·rw[yo j e];exact hl))).mono hM
      have e:(a.put ops[i].dst v).tmps.getD t undef=a.tmps.getD t undef:=by
       cases hd:ops[i].dst with
       |none=>rfl
       |some u=>
        have s7:u≠t:=fun e=>aQ (by rw[hd,e])
        simp[Act.put,Za s7]
      rw[e];exact this
     ·by_cases gu:j=i
      ·subst gu
       have hd:ops[j].dst=some t:=by rw[← iZ];exact cz
       have E3:t<a.tmps.size:=by rw[g3];exact aH t cz
       have e:(a.put ops[j].dst v).tmps.getD t undef=v:=by simp[hd,Act.put,E3]
       rw[e,Bp];exact hx
      ·have Be:listed.getD j true=true:=by rw[← yo j gu];exact ja
       have:=(g6 j hj t Be cz).mono hM
       have e:(a.put ops[i].dst v).tmps.getD t undef=a.tmps.getD t undef:=by
        cases hd:ops[i].dst with
        |none=>rfl
        |some u=>
         have s7:u≠t:=fun e=>by
          subst e
          have h1:l[i].d=some u:=iZ.trans hd
          have mG:=List.pairwise_iff_getElem.1 hnd
          rcases YB i j with h|h|h
          ·exact mG i j (by simpa using bz) (by simpa using hj) h (by simp[h1,cz])
          ·exact gu h.symm
          ·exact mG j i (by simpa using hj) (by simpa using bz) h (by simp[h1,cz])
         simp[Act.put,Za s7]
       rw[e,hxj j hj Be];exact this
     ·by_cases Li:j'=i
      ·subst Li;exact yq
      ·rw[yo j' Li]
       by_cases gu:j=i
       ·subst gu;exact jD t ht j' ef cz Lh
       ·rw[yo j gu]at ja
        exact g7 j hj ja t ht j' ef cz Lh
    unfold wpOp
    simp only[ZQ hio]
    rcases g8 with⟨h1,rfl,h3⟩|⟨h1,h2,h3⟩
    ·
     have fa:∀ j (hj:j<k),XS[j]'(by omega)=xs[j]'(by omega):=fun j hj=>by subst h3;simp
     rcases YB i k with kz|kz|kz
     ·have sZ:QV P cfg l[i] (db (l.take i) (XS.take i) rg) jt (XS[i]'(by omega)):=by
       have:=Xi i (by omega) (by omega)
       rw[LR i (by omega),aai i (by omega) bz,fa i kz]
       have e:XS.take i=xs.take i:=by rw[← h3,List.take_take,Nat.min_eq_left (by omega)]
       rw[e];exact this
      have hq:=r4 sU sZ
      refine sD (K:=fun y σ'=>y=XS[i]'(by omega)∧σ'=jt) (E:=fun _ _=>False) nJ hq g2 sK ⟨?_,fun _ _ _ _ _ _ h=>h.elim⟩
      rintro M3 x σ' v w' hM hI' hx ⟨rfl,rfl⟩
      refine step M3 _ _ v w' XS hX hM hI' hx rfl (fun _ _ _=>rfl) (.inl ⟨fun j hj hjl=> ?_,rfl,h3⟩)
      rw[Z2,Zz,if_neg (by omega),← Z2]
      exact h1 j hj hjl
     ·
      subst kz
      have aJb:∀ d j,i-j=d→j<i→listed.getD j true=true:=by
       intro d
       induction d using Nat.strongRecOn with
       |_ d ihd=>
        intro j hd hj
        obtain⟨j',x8,azN,mH⟩:=ax9 eZ hj (by omega)
        obtain⟨ha,hb,t,mJ,fP⟩:=N9 mH
        by_cases e:j'=i
        ·subst e;exact jD t fP j ha mJ x8
        ·exact g7 j' hb (ihd (i-j') (by omega) j' rfl (by omega)) t fP j ha mJ x8
      have hv:di P cfg l[i] (fun x σ'=>Ad P cfg (fun rg'=>Q .normal rg' σ') l2 (bM s.d x (db l1 xs rg)) σ') (fun _ _=>False) (Sx.eY l[i].reads (db (l.take i) (XS.take i) rg)) jt:=by
       have e0:l.take i=l1:=by rw[LR i (ZI _),ZC (by omega)]
       rw[e0,h3]at sU ⊢
       rw[vn]at sU ⊢
       unfold di
       rw[lK]
       dsimp only
       rw[← pV (fun t ht=>sU t (Zy _ ht))]
       exact my
      refine sD (E:=fun _ _=>False) nJ hv g2 sK ⟨?_,fun _ _ _ _ _ _ h=>h.elim⟩
      rintro M3 x σ' v w' hM hI' hx ⟨ys,hyl,⟨fG,D9,hF⟩,Xj⟩
      have o9:=aap
      have E9:xs.length=i:=by omega
      have xP:(xs++x::ys).length=l.length:=by simp[oa,hyl,o9];omega
      refine step M3 x σ' v w' (xs++x::ys) xP hM hI' hx (by rw[Yp (by omega)];simp[E9]) (fun j hj ja=> ?_) (.inr ⟨fun j hj=> ?_,⟨fG,D9,fun t=> ?_⟩,fun j hj Lp=> ?_⟩)
      ·have nO:j<i:=by
        rcases Nat.lt_or_ge j i with h|h
        ·exact h
        ·rw[h1 j h hj]at ja;cases ja
       rw[fa j nO,List.getElem_append_left (by omega)]
      ·by_cases e:j=i
       ·subst e;rw[Z2,Zz];simp[hsz,hio]
       ·rw[Z2,Zz,if_neg (fun h=>e h.symm),← Z2]
        exact aJb _ j rfl (by omega)
      ·rw[hF,← hL,yT l1 (s::l2) xs (x::ys) rg (by omega)];rfl
      ·have nN:j-i-1<l2.length:=by omega
       have:=Xj (j-i-1) nN (by omega)
       have e1:l[j]=l2[j-i-1]:=by
        simp only[← hL]
        rw[Yp (by omega)]
        simp only[hK]
        rw[List.getElem_cons,dif_neg (by omega)]
       have e2:(xs++x::ys)[j]'(by rw[xP];exact hj)=ys[j-i-1]'(by omega):=by
        rw[Yp (by omega)]
        simp only[E9]
        rw[List.getElem_cons,dif_neg (by omega)]
       have e3:l.take j=l1++s::l2.take (j-i-1):=by
        rw[← hL,List.take_append,ZC (by omega),hK]
        congr 1
        obtain⟨m,hm⟩:∃ m,j-i=m+1:=⟨j-i-1,by omega⟩
        rw[hm];rfl
       have e4:(xs++x::ys).take j=xs++x::ys.take (j-i-1):=by
        rw[List.take_append,ZC (by omega),E9]
        congr 1
        obtain⟨m,hm⟩:∃ m,j-i=m+1:=⟨j-i-1,by omega⟩
        rw[hm];rfl
       rw[e1,e2,e3,e4,yT l1 _ xs _ rg (by omega)]
       exact this
     ·exfalso
      obtain⟨j',lH,nN,mH⟩:=ax8 eZ kz bz
      obtain⟨ha,hb,t,mJ,fP⟩:=N9 mH
      have:=jD t fP j' ha mJ nN
      rw[h1 j' lH ha]at this
      cases this
    ·
     have kz:k<i:=by
      rcases Nat.lt_or_ge k i with h|h
      ·exact h
      ·rw[h1 i h]at ph;cases ph
     have hq:=r4 sU (h3 i bz kz)
     refine sD (K:=fun y σ'=>y=XS[i]'(by omega)∧σ'=jt) (E:=fun _ _=>False) nJ hq g2 sK ⟨?_,fun _ _ _ _ _ _ h=>h.elim⟩
     rintro M3 x σ' v w' hM hI' hx ⟨rfl,rfl⟩
     refine step M3 _ _ v w' XS hX hM hI' hx rfl (fun _ _ _=>rfl) (.inr ⟨fun j hj=> ?_,h2,h3⟩)
     rw[Z2,Zz,if_neg (by omega),← Z2]
     exact h1 j hj
 refine main ops.size _ a _ (by simp) ?_ ⟨M,σ,xs++List.replicate (l.length-k) .any,by simp;omega,Mem.le.refl _,hI.kq,hN,hD,fun t _=>hR t,fun j hj t ja _=> ?_,fun j hj ja=> ?_,.inl ⟨fun j _ hj=> ?_,rfl,by rw[YQ (by omega),ZC (by omega)]⟩⟩
 ·exact YG (XO _ _) (by simp)
 ·exfalso
  have sW:j<ops.size:=by omega
  simp[sW]at ja
 ·exfalso
  have sW:j<ops.size:=by omega
  simp[sW]at ja
 ·have sW:j<ops.size:=by omega
  simp[sW]
theorem PI{K:ae→Store→Prop}:∀ (l:List CI) (rg fj:ae),(∀ i,lk rg i=lk fj i)→(∀ c∈l,c.op.cls≤1∨(c.op.cls=4∧c.g=none))→cD P cfg [] (bare l) K rg σ→
  ∃ xs:List AV,xs.length=l.length∧(∃ rg',K rg' σ∧∀ i,lk rg' i=lk (db l xs fj) i)∧∀ i (h:i<l.length) (h':i<xs.length),QV P cfg l[i] (db (l.take i) (xs.take i) fj) σ xs[i]:=zP
end
section
variable {P:Program}[Glob P]{N:Nat}{cfg:Nat→Nat}{Q:Exit→ae→Store→Prop}{rg:ae}{σ:Store}{k:List Fr}{xr:XR}
def zB(d:Nat):List CI→Option (List CI×CI×List CI)
 |[]=>none
 |c::l=>bif (match c.d with|some e=>Nat.beq e d|none=>false)then some ([],c,l)else match zB d l with
  |some (a,s,b)=>some (c::a,s,b)
  |none=>none
theorem OT{d:Nat}:∀ {l a b:List CI} {s:CI},zB d l=some (a,s,b)→l=a++s::b
 |[],_,_,_,h=>by cases h
 |c::l,a,b,s,h=>by
  simp only[zB]at h
  generalize (match c.d with|some e=>Nat.beq e d|none=>false)=q at h
  cases q with
  |true=>cases h;rfl
  |false=>
   simp only[XW]at h
   cases h2:zB d l with
   |none=>rw[h2]at h;cases h
   |some p=>obtain⟨a',s',b'⟩:=p;rw[h2]at h;cases h;rw[OT h2];rfl
def uQ:List CI→Option (List CI×CI×List CI)
 |[]=>none
 |c::l=>bif Nat.beq c.op.cls 4 then some ([],c,l)else match uQ l with
  |some (a,s,b)=>some (c::a,s,b)
  |none=>none
theorem Jo:∀ {l a b:List CI} {s:CI},uQ l=some (a,s,b)→l=a++s::b∧s.op.cls=4
 |[],_,_,_,h=>by cases h
 |c::l,a,b,s,h=>by
  simp only[uQ]at h
  cases q:Nat.beq c.op.cls 4 with
  |true=>rw[q]at h;cases h;exact⟨rfl,ZL q⟩
  |false=>
   rw[q]at h
   simp only[XW]at h
   cases h2:uQ l with
   |none=>rw[h2]at h;cases h
   |some p=>
    obtain⟨a',s',b'⟩:=p
    rw[h2]at h
    cases h
    obtain⟨e,e2⟩:=Jo h2
    exact⟨by rw[e];rfl,e2⟩
theorem ay6{P:Program}[Glob P]{cfg:Nat→Nat}{d:Option Nat}{rg:ae}{σ:Store}{K K':AV→Store→Prop}{E E':List PanicEntry→Store→Prop}{op:aw}(h4:op.cls=4)(hk:∀ x σ',K x σ'→K' x σ')(h:aj P cfg d rg σ K E op):aj P cfg d rg σ K' E' op:=by
 cases op<;>simp only[aw.cls,reduceCtorEq,Nat.reduceEqDiff,Nat.zero_ne_add_one]at h4
 ·simp only[aj]at h ⊢
  split at h
  ·exact⟨h.1,fun e=>hk _ _ (h.2.1 e),fun e b u c hu=>hk _ _ (h.2.2 e b u c hu)⟩
  ·exact⟨h.1,h.2.1,h.2.2.1,h.2.2.2.1,fun b u c hu=>hk _ _ (h.2.2.2.2 b u c hu)⟩
  ·exact⟨h.1,h.2.1,fun e=>hk _ _ (h.2.2.1 e),fun e b u c=>hk _ _ (h.2.2.2 e b u c)⟩
  ·exact h.elim
 ·exact kh.mono h hk
def w6(P:Program)[Glob P](cfg:Nat→Nat)(l2:List CI)(K:ae→Store→Prop)(rg:ae)(σ:Store):Prop:=cD P cfg [] (bare l2) (Cl K) rg σ
def uA(P:Program)[Glob P](cfg:Nat→Nat)(K:ae→Store→Prop)(s:CI)(l2:List CI)(rg:ae)(σ:Store):Prop:=dW P cfg [s] (w6 P cfg l2 K) (fun _ _=>False) rg σ
theorem QB{P:Program}[Glob P]{N:Nat}{l1 l2:List CI}{s:CI}{Q:Exit→ae→Store→Prop}{rg:ae}{σ:Store}(cfg:Nat→Nat)(h4:s.op.cls=4)(eZ:rC (l1++s::l2) l1.length=true)(lK:s.g=none)
  (h:cD P cfg [] (bare l1) (uA P cfg (Q .normal) s l2) rg σ):SW P N (.azZ (l1++s::l2)) Q rg σ:=by
 refine Af (Qx cfg (.inl h4) eZ lK fun hc=> ?_)
 have xW:=zQ l1 rg (fun c h=>hc c (by simp[h])) h
 obtain⟨xs,h1,⟨cC,hM,h3⟩,W3⟩:=PI l1 rg rg (fun _=>rfl) (fun c h=>hc c (by simp[h])) h
 refine⟨xs,h1,W3,?_,xW⟩
 rw[← pV (rg:=cC) (fun t _=>h3 t)]
 simp only[uA,dW,di,lK]at hM
 refine ay6 h4 (fun x σ' hx=> ?_) hM
 exact zP l2 _ _ (vL h3 s.d x) (fun c h=>hc c (by simp[h])) hx
theorem Sc{l l1 l2:List CI}{s:CI}(hl:uQ l=some (l1,s,l2))(eZ:rC l l1.length=true)(lK:s.g=none)(hx:toXO rg=some xr)
  (h:VY P cfg [] (bare l1) (uA P cfg (FK P N cfg Q .normal k) s l2) xr σ):WK P N cfg Q (.azZ l) k rg σ:=by
 obtain⟨e,h4⟩:=Jo hl
 subst e
 refine⟨WA.mono (Q:=fun e=>FK P N cfg Q e k) ⟨rfl,QB cfg h4 eZ lK ?_⟩ fun _ _ _ h=>h.h⟩
 have:=h.h
 rw[← tV hx,sq]at this
 exact this
theorem RS{K:ae→Store→Prop}{s:CI}{l2:List CI}(h:VX P cfg [s] (w6 P cfg l2 K) (fun _ _=>False) xr σ):VY P cfg [] [] (uA P cfg K s l2) xr σ:=⟨h.h⟩
theorem Rn{K:ae→Store→Prop}{E:List PanicEntry→Store→Prop}{l2:List CI}(h:VY P cfg [] (bare l2) (Cl K) xr σ):VX P cfg [] (w6 P cfg l2 K) E xr σ:=⟨h.h⟩
end
end Go.Sx
