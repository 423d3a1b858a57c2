/-
  A region of open order with one call that turns the store: what the call reads, the call, what reads it.
-/
import Derived.Test.YtbihckigennlhaaGreatDoorSxX3
set_option linter.unusedVariables false
set_option linter.unusedSimpArgs false
set_option linter.unusedSectionVars false
namespace Go.Sx
open Go.RowKit
def uZ(l:List CI)(a b:Nat):Bool:=match l[a]?,l[b]? with
 |some x,some y=>match x.d with
  |some t=>y.reads.elem t
  |none=>false
 |_,_=>false
def qk(l:List CI)(k:Nat):Bool:=(List.range l.length).all fun j=>
 bif Nat.blt j k then(List.range (k+1)).any fun i=>Nat.blt j i && uZ l j i
 else(Nat.beq j k || (List.range j).any fun i=>Nat.ble k i && uZ l i j)
theorem LP{l:List CI}{a b:Nat}(h:uZ l a b=true):∃ (ha:a<l.length) (hb:b<l.length) (t:Nat),l[a].d=some t∧t∈l[b].reads:=by
 unfold uZ at h
 split at h
 ·rename_i x y hx hy
  obtain⟨h1,h2⟩:=ZP.1 hx
  obtain⟨h3,h4⟩:=ZP.1 hy
  split at h
  ·rename_i t ht
   exact⟨h1,h3,t,by rw[h2];exact ht,by rw[h4];exact List.elem_iff.1 h⟩
  ·cases h
 ·cases h
theorem asf{l:List CI}{k j:Nat}(h:qk l k=true)(hj:j<k)(hl:j<l.length):∃ i,j<i∧i≤k∧uZ l j i=true:=by
 unfold qk at h
 have:=ZJ.1 h j (by simpa using hl)
 have e:Nat.blt j k=true:=Nat.ble_eq_true_of_le hj
 rw[e]at this
 obtain⟨i,h1,h2⟩:=Yn.1 this
 rw[Z3]at h2
 exact⟨i,Z9 h2.1,by have:=Zg.1 h1;omega,h2.2⟩
theorem ase{l:List CI}{k j:Nat}(h:qk l k=true)(hj:k<j)(hl:j<l.length):∃ i,k≤i∧i<j∧uZ l i j=true:=by
 unfold qk at h
 have:=ZJ.1 h j (by simpa using hl)
 have e:Nat.blt j k=false:=by
  cases e:Nat.blt j k with
  |false=>rfl
  |true=>have:j+1≤k:=Z9 e;omega
 have e2:Nat.beq j k=false:=by
  cases e:Nat.beq j k with
  |false=>rfl
  |true=>have:=ZM e;omega
 rw[e,e2]at this
 obtain⟨i,h1,h2⟩:=Yn.1 this
 rw[Z3]at h2
 exact⟨i,Z9 h2.1,Zg.1 h1,h2.2⟩
theorem xL:∀ (l l':List CI) (xs ys:List AV) (rg:ae),xs.length=l.length→cP (l++l') (xs++ys) rg=cP l' ys (cP l xs rg)
 |[],l',[],ys,rg,_=>by simp[cP]
 |c::l,l',x::xs,ys,rg,h=>by
  simp only[ZH,cP]
  exact xL l l' xs ys _ (by simpa using h)
 |[],_,_::_,_,_,h=>by simp at h
 |_::_,_,[],_,_,h=>by simp at h
section
variable {P:Program}[Glob P]{M:Mem}{w0:Base}{w:World}{σ:Store}{rg:ae}{a:Act}{cfg:Nat→Nat}{N:Nat}
theorem Od{l1 l2:List CI}{s:CI}{Q:Exit→ae→Store→Prop}(cfg:Nat→Nat)(xf:s.op.cls=4∨si (l1++s::l2) 0=none)(eD:qk (l1++s::l2) l1.length=true)(kB:s.g=none)
  (h:(∀ c∈l1++s::l2,c.op.cls≤1∨(c.op.cls=4∧c.g=none))→∃ xs:List AV,xs.length=l1.length∧(∀ i (h:i<l1.length) (h':i<xs.length),QV P cfg l1[i] (cP (l1.take i) (xs.take i) rg) σ xs[i])∧
   aj P cfg s.d (cP l1 xs rg) σ (fun x σ'=>yr P cfg (fun ao=>Q .normal ao σ') l2 (bM s.d x (cP l1 xs rg)) σ') (fun _ _=>False) s.op∧(∀ c∈l1,c.op.cls≤1)):
  SW P N (.dc (l1++s::l2)) Q rg σ:=by
 intro c hc M w0 a w hI hR hN hD
 obtain⟨id,ops,rfl,hl,bu,ob⟩:=dF hc
 obtain⟨hlen,uf⟩:=yH ops.toList _ hl
 obtain⟨xs,nc,Ut,lC,wJ⟩:=h (HX bu)
 clear h
 obtain⟨k,hK⟩:∃ k,l1.length=k:=⟨_,rfl⟩
 have od:k<(l1++s::l2).length:=by simp[hK]
 have JK:(l1++s::l2)[k]=s:=by simp[← hK]
 have V7:∀ i,i≤k→(l1++s::l2).take i=l1.take i:=fun i hi=>by rw[Y1 (by omega)]
 have Jw:∀ i (h:i<k) (h':i<(l1++s::l2).length),(l1++s::l2)[i]=l1[i]'(by omega):=fun i h h'=>by simp[hK,h]
 have Vp:(l1++s::l2).length=k+(1+l2.length):=by simp[hK];omega
 have iz:∀ k',si (l1++s::l2) 0=some k'→k'=k:=by
  intro k' h4
  rcases xf with xf|xf
  case inr=>rw[xf]at h4;cases h4
  obtain⟨i,hi,e,h4,wW⟩:=Eh _ _ h4
  rcases YF i k with h|h|h
  ·exfalso
   rw[Jw i h hi]at h4
   have:=wJ _ (Za (show i<l1.length by omega))
   omega
  ·omega
  ·exfalso
   exact wW k h od (by rw[JK];exact xf)
 rw[hK]at eD
 generalize hL:l1++s::l2=l at *
 have hk:=od
 have ui:=JK
 have J6:=V7
 have U7:=Jw
 have pF:l.length=ops.size:=by simpa using hlen
 have Vq:(l.map (·.d)).Nodup∧∀ x∈(l.zip ops.toList).zipIdx,(x.1.2.after.all fun e=> !Region.binds .any e || decide (e.on<x.2))=true∧
   (x.1.1.reads.all fun t=>match posOf t (l.map (·.d)) 0 with
    |some j=>(x.1.2.after.any fun e=>Region.binds .any e && e.on == j) || (Nat.ble x.2 k && Nat.blt k j)
    |none=>true)=true:=by
  rcases bu with bu|bu
  ·unfold nV at bu
   simp only[Z3,ZG]at bu
   obtain⟨⟨hnd,_⟩,mM⟩:=bu
   rw[ZJ]at mM
   refine⟨hnd,fun x hx=> ?_⟩
   have:=mM x hx
   simp only[Z3]at this
   refine⟨this.1,ZJ.2 fun t ht=> ?_⟩
   have h3:=ZJ.1 this.2 t ht
   split at h3
   ·rename_i j e;simp only[e];rw[h3];rfl
   ·rename_i e;simp only[e]
  ·unfold nW at bu
   split at bu
   ·cases bu
   ·rename_i k' e
    simp only[Z3,ZG]at bu
    obtain⟨⟨hnd,_⟩,mM⟩:=bu
    rw[ZJ]at mM
    have e':=iz k' e
    subst e'
    refine⟨hnd,fun x hx=> ?_⟩
    have:=mM x hx
    simp only[Z3]at this
    exact this
 obtain⟨hnd,mM⟩:=Vq
 have dW:∀ i (hi:i<l.length) (ho:i<ops.size),(∀ e∈ops[i].after,Region.binds .any e=true→e.on<i)∧∀ t∈l[i].reads,(∀ c∈l,c.d≠some t)∨(∃ j,∃ hj:j<l.length,l[j].d=some t∧j<i∧∃ e∈ops[i].after,Region.binds .any e=true∧e.on=j)∨
   ∃ j,∃ hj:j<l.length,l[j].d=some t∧i≤k∧k<j:=by
  intro i hi ho
  have hm:((l[i],ops[i]),i)∈(l.zip ops.toList).zipIdx:=by
   rw[List.mem_zipIdx_iff_getElem?]
   simp[List.getElem?_zip_eq_some,hi,ho]
  obtain⟨h1,h2⟩:=mM _ hm
  have hb:∀ e∈ops[i].after,Region.binds .any e=true→e.on<i:=by
   intro e he jr
   have:=ZN.1 h1 e he
   simpa[jr]using this
  refine⟨hb,fun t ht=> ?_⟩
  have h3:=ZJ.1 h2 t ht
  split at h3
  ·rename_i j hj
   right
   have wT:j<l.length∧(l.map (·.d))[j]? =some (some t):=by
    obtain⟨i',h5,h6⟩:=Ej _ _ hj
    obtain rfl:j=i':=by omega
    exact⟨by have:=(ZP.1 h6).1;simpa using this,h6⟩
   obtain⟨kx,mP⟩:=wT
   rw[Zk]at h3
   rcases h3 with h3|h3
   ·left
    rw[Yh]at h3
    obtain⟨m,kz,h4⟩:=h3
    simp only[Z3,beq_iff_eq]at h4
    refine⟨j,kx,by simpa[kx]using mP,?_,ops[i].after[m],YE kz,h4.1,h4.2⟩
    rw[← h4.2]
    exact hb _ (YE kz) h4.1
   ·right
    rw[Z3]at h3
    exact⟨j,kx,by simpa[kx]using mP,Z9 h3.1,Z9 h3.2⟩
  ·rename_i hj
   left
   intro c hc e
   exact Ei _ _ hj (by rw[← e];exact YW hc)
 have tM:∀ (XS:List AV) (hX:XS.length=l.length) j (h:j<l.length) t,l[j].d=some t→lk (cP l XS rg) t=XS[j]'(by omega):=fun XS hX j h t ht=>xw l XS rg hnd hX j h (by omega) t ht
 have tP:∀ (XS:List AV) t,(∀ c∈l,c.d≠some t)→lk (cP l XS rg) t=lk rg t:=fun XS t ht=>rZ l XS rg t ht
 have zR:∀ j j' t,(hj:j<l.length)→(dS:j'<l.length)→l[j].d=some t→l[j'].d=some t→j=j':=by
  intro j j' t hj dS cr ug
  have lJ:=List.pairwise_iff_getElem.1 hnd
  rcases YF j j' with h|h|h
  ·exact((lJ j j' (by simpa using hj) (by simpa using dS) h) (by simp[cr,ug])).elim
  ·exact h
  ·exact((lJ j' j (by simpa using dS) (by simpa using hj) h) (by simp[cr,ug])).elim
 refine B9 ob ?_
 have main:∀ (fuel:Nat) (listed:Array Bool) (a:Act) (w:World),listed.size=ops.size→((List.range ops.size).filter (fun i=> !listed.getD i true)).length≤fuel→
   (∃ M2 iK XS,∃ hX:XS.length=l.length,M.le M2∧Inv P M2 w0 iK w∧a.tmps.size=N∧a.defers=Glob.df P∧(∀ t,(∀ j (h:j<l.length),listed.getD j true=true→l[j].d≠some t)→R M2 (lk rg t) (a.tmps.getD t undef))∧
    (∀ j (h:j<l.length) t,listed.getD j true=true→l[j].d=some t→R M2 (XS[j]'(by omega)) (a.tmps.getD t undef))∧
    (∀ j (h:j<l.length),listed.getD j true=true→∀ t∈l[j].reads,∀ i (hi:i<l.length),l[i].d=some t→i<j→listed.getD i true=true)∧
    (((∀ j,k≤j→j<l.length→listed.getD j true=false)∧iK=σ∧XS.take k=xs)∨
     ((∀ j,j≤k→listed.getD j true=true)∧(∃ fe,Q .normal fe iK∧∀ i,lk fe i=lk (cP l XS rg) i)∧∀ j (h:j<l.length),k<j→QV P cfg l[j] (cP (l.take j) (XS.take j) rg) iK (XS[j]'(by omega)))))→
   wpAny P .any ops (gg P M w0 N Q) fuel listed a w:=by
  have fin:∀ (listed:Array Bool) (a:Act) (w:World),(∀ i,i<ops.size→listed.getD i true=true)→(∃ M2 iK XS,∃ hX:XS.length=l.length,M.le M2∧Inv P M2 w0 iK w∧a.tmps.size=N∧a.defers=Glob.df P∧(∀ t,(∀ j (h:j<l.length),listed.getD j true=true→l[j].d≠some t)→R M2 (lk rg t) (a.tmps.getD t undef))∧
    (∀ j (h:j<l.length) t,listed.getD j true=true→l[j].d=some t→R M2 (XS[j]'(by omega)) (a.tmps.getD t undef))∧
    (∀ j (h:j<l.length),listed.getD j true=true→∀ t∈l[j].reads,∀ i (hi:i<l.length),l[i].d=some t→i<j→listed.getD i true=true)∧
    (((∀ j,k≤j→j<l.length→listed.getD j true=false)∧iK=σ∧XS.take k=xs)∨
     ((∀ j,j≤k→listed.getD j true=true)∧(∃ fe,Q .normal fe iK∧∀ i,lk fe i=lk (cP l XS rg) i)∧∀ j (h:j<l.length),k<j→QV P cfg l[j] (cP (l.take j) (XS.take j) rg) iK (XS[j]'(by omega)))))→gg P M w0 N Q .normal a w:=by
   rintro listed a w cw ⟨M2,iK,XS,hX,g1,g2,g3,g4,g5,g6,g7,⟨h1,_,_⟩|⟨h1,⟨fe,CG,hF⟩,h3⟩⟩
   ·exfalso
    have:=cw k (by omega)
    rw[h1 k (ZK _) hk]at this
    cases this
   ·refine⟨M2,fe,iK,g1,g2,fun t=> ?_,g3,g4,CG⟩
    rw[hF]
    by_cases ht:∃ j,∃ h:j<l.length,l[j].d=some t
    ·obtain⟨j,hj,cr⟩:=ht
     rw[tM XS hX j hj t cr]
     exact g6 j hj t (cw j (by omega)) cr
    ·have hn:∀ c∈l,c.d≠some t:=fun c hc e=>by
      obtain⟨j,hj,rfl⟩:=Zf.1 hc
      exact ht ⟨j,hj,e⟩
     rw[tP XS t hn]
     exact g5 t (fun j hj _=>hn _ (Za hj))
  intro fuel
  induction fuel with
  |zero=>
   intro listed a w aT tY rL
   have cw:∀ i,i<ops.size→listed.getD i true=true:=by
    intro i hi
    cases lH:listed.getD i true with
    |true=>rfl
    |false=>
     have:i∈(List.range ops.size).filter (fun i=> !listed.getD i true):=by simp only[Y9,Zg,hi,lH,X4,and_self]
     have:=List.length_pos_of_mem this
     omega
   refine⟨?_,fin listed a w cw rL⟩
   unfold Region.ready
   rw[YB]
   intro i hi
   simp[cw i (by simpa using hi)]
  |succ fuel ih=>
   intro listed a w aT tY rL
   refine⟨fun hr=> ?_,fun i hi=> ?_⟩
   ·
    have cw:∀ i,i<ops.size→listed.getD i true=true:=by
     intro i
     induction i using Nat.strongRecOn with
     |_ i DK=>
      intro hi
      cases lH:listed.getD i true with
      |true=>rfl
      |false=>
       have:i∈Region.ready .any ops listed:=by
        unfold Region.ready
        rw[Y9]
        refine⟨by simpa using hi,?_⟩
        simp only[lH,X4,Bool.true_and,ZQ hi,Zy,ZI]
        rw[ZN]
        intro e he
        cases jr:Region.binds .any e with
        |false=>rfl
        |true=>
         have aE:=(dW i (by omega) hi).1 e he jr
         have:=DK e.on aE (by omega)
         have h2:listed.getD e.on false=true:=by
          rw[Z4]at this ⊢
          rw[ZQ (by omega)]at this ⊢
          exact this
         simp[h2]
       rw[hr]at this
       cases this
    exact fin listed a w cw rL
   ·unfold Region.ready at hi
    rw[Y9]at hi
    obtain⟨rD,mO⟩:=hi
    have eY:i<ops.size:=by simpa using rD
    simp only[Z3,Y4,ZQ eY,Zy,ZI]at mO
    obtain⟨oo,ub⟩:=mO
    have br:i<l.length:=by omega
    have mL:nT P N ops ops[i]=some l[i]:=by have:=uf i (by simpa using eY) br;simpa using this
    obtain⟨iu,aE⟩:=vY mL
    obtain⟨M2,iK,XS,hX,g1,g2,g3,g4,g5,g6,g7,g8⟩:=rL
    have iT:∀ t∈l[i].reads,∀ j (hj:j<l.length),l[j].d=some t→j<i→listed.getD j true=true:=by
     intro t ht j hj cr atM
     rcases(dW i br eY).2 t ht with hn|⟨j',dS,ug,mQ,e,he,jr,C2⟩|⟨j',dS,ug,gU,jt⟩
     ·exact absurd cr (hn _ (Za hj))
     ·have wS:=zR j j' t hj dS cr ug
      subst wS
      have:=ZN.1 ub e he
      simp only[jr,Bool.not_true,Bool.false_or,C2]at this
      rw[Z4]at this ⊢
      rw[ZQ (by omega)]at this ⊢
      exact this
     ·have wS:=zR j j' t hj dS cr ug
      omega
    have rh:bB M2 (Sx.eC l[i].reads (cP (l.take i) (XS.take i) rg)) a:=by
     intro t
     by_cases ht:t∈l[i].reads
     ·rw[s7.z6 ht]
      have aE:∀ j (hj:j<l.length),l[j].d=some t→i<j→lk (cP (l.take i) (XS.take i) rg) t=lk rg t:=fun j hj cr fW=>
       rZ _ _ _ _ (fun c hc e=>by
        obtain⟨m,hm,rfl⟩:=Zf.1 hc
        simp only[ZW]at hm
        rw[List.getElem_take]at e
        have:=zR m j t (by omega) hj e cr
        omega)
      rcases(dW i br eY).2 t ht with hn|⟨j,hj,cr,mQ,_⟩|⟨j,hj,cr,gU,jt⟩
      ·rw[rZ _ _ _ _ (fun c hc=>hn c (List.mem_of_mem_take hc))]
       exact g5 t (fun j hj _=>hn _ (Za hj))
      ·have e1:(l.take i)[j]'(by simp;omega)=l[j]:=by simp
       have e2:(XS.take i)[j]'(by simp;omega)=XS[j]'(by omega):=by simp
       rw[xw (l.take i) (XS.take i) rg (by rw[Yb];exact hnd.sublist (List.take_sublist _ _)) (by simp[hX]) j (by simp;omega) (by simp;omega) t (by rw[e1];exact cr),e2]
       exact g6 j hj t (iT t ht j hj cr mQ) cr
      ·rw[aE j hj cr (by omega)]
       refine g5 t (fun j' dS fF e=> ?_)
       have:=zR j' j t dS hj e cr
       subst this
       rcases g8 with⟨h1,_,_⟩|⟨h1,_,_⟩
       ·rw[h1 j' (by omega) dS]at fF;cases fF
       ·rw[h1 i gU]at oo;cases oo
     ·rw[s7.KG ht];exact .any _
    have rC:∀ t∈l[i].reads,lk (cP (l.take i) (XS.take i) rg) t=lk (Sx.eC l[i].reads (cP (l.take i) (XS.take i) rg)) t:=fun t ht=>by
     rw[s7.z6 ht]
    have step:∀ M3 (x:AV) σ' v w' nN (wB:nN.length=l.length),M2.le M3→Inv P M3 w0 σ' w'→R M3 x v→nN[i]'(by omega)=x→(∀ j (hj:j<l.length),listed.getD j true=true→nN[j]'(by omega)=XS[j]'(by omega))→
      (((∀ j,k≤j→j<l.length→(listed.setIfInBounds i true).getD j true=false)∧σ'=σ∧nN.take k=xs)∨
       ((∀ j,j≤k→(listed.setIfInBounds i true).getD j true=true)∧(∃ fe,Q .normal fe σ'∧∀ i,lk fe i=lk (cP l nN rg) i)∧∀ j (h:j<l.length),k<j→QV P cfg l[j] (cP (l.take j) (nN.take j) rg) σ' (nN[j]'(by omega))))→
      wpAny P .any ops (gg P M w0 N Q) fuel (listed.setIfInBounds i true) (a.put ops[i].dst v) w':=by
     intro M3 x σ' v w' nN wB hM bo hx zT Wo VI
     have xg:∀ j,j≠i→(listed.setIfInBounds i true).getD j true=listed.getD j true:=fun j hj=>by
      rw[Z4,ZE,if_neg (fun e=>hj e.symm),Z4]
     have xh:(listed.setIfInBounds i true).getD i true=true:=by
      rw[Z4,ZE];simp[aT,eY]
     refine ih _ _ _ (by simp[aT]) ?_ ⟨M3,σ',nN,wB,g1.trans hM,bo,by rw[Act.size_put];exact g3,by rw[Act.v8];exact g4,fun t ht=> ?_,fun j hj t iw cr=> ?_,fun j hj iw t ht j' dS cr JA=> ?_,VI⟩
     ·have:=filter_lt (fun i=> !listed.getD i true) (fun k=> !(listed.setIfInBounds i true).getD k true) (List.range ops.size) (fun k _ hk=>by
       simp only[Y4]at hk ⊢
       by_cases JF:k=i
       ·subst JF;rw[xh]at hk;cases hk
       ·rw[xg k JF]at hk;exact hk) ⟨i,rD,by simpa using oo,by simp only[Bool.not_eq_false'];exact xh⟩
      omega
     ·have aR:ops[i].dst≠some t:=by rw[← iu];exact ht i br xh
      have:=(g5 t (fun j hj hl=>ht j hj (by by_cases e:j=i;·subst e;exact xh
                                            ·rw[xg j e];exact hl))).mono hM
      have e:(a.put ops[i].dst v).tmps.getD t undef=a.tmps.getD t undef:=by
       cases hd:ops[i].dst with
       |none=>rfl
       |some u=>
        have rM:u≠t:=fun e=>aR (by rw[hd,e])
        simp[Act.put,Zj rM]
      rw[e];exact this
     ·by_cases fW:j=i
      ·subst fW
       have hd:ops[j].dst=some t:=by rw[← iu];exact cr
       have Dy:t<a.tmps.size:=by rw[g3];exact aE t cr
       have e:(a.put ops[j].dst v).tmps.getD t undef=v:=by simp[hd,Act.put,Dy]
       rw[e,zT];exact hx
      ·have zJ:listed.getD j true=true:=by rw[← xg j fW];exact iw
       have:=(g6 j hj t zJ cr).mono hM
       have e:(a.put ops[i].dst v).tmps.getD t undef=a.tmps.getD t undef:=by
        cases hd:ops[i].dst with
        |none=>rfl
        |some u=>
         have rM:u≠t:=fun e=>by
          subst e
          have h1:l[i].d=some u:=iu.trans hd
          have lJ:=List.pairwise_iff_getElem.1 hnd
          rcases YF i j with h|h|h
          ·exact lJ i j (by simpa using br) (by simpa using hj) h (by simp[h1,cr])
          ·exact fW h.symm
          ·exact lJ j i (by simpa using hj) (by simpa using br) h (by simp[h1,cr])
         simp[Act.put,Zj rM]
       rw[e,Wo j hj zJ];exact this
     ·by_cases JB:j'=i
      ·subst JB;exact xh
      ·rw[xg j' JB]
       by_cases fW:j=i
       ·subst fW;exact iT t ht j' dS cr JA
       ·rw[xg j fW]at iw
        exact g7 j hj iw t ht j' dS cr JA
    unfold wpOp
    simp only[ZQ eY]
    rcases g8 with⟨h1,rfl,h3⟩|⟨h1,h2,h3⟩
    ·
     have eE:∀ j (hj:j<k),XS[j]'(by omega)=xs[j]'(by omega):=fun j hj=>by subst h3;simp
     rcases YF i k with jM|jM|jM
     ·have rH:QV P cfg l[i] (cP (l.take i) (XS.take i) rg) iK (XS[i]'(by omega)):=by
       have:=Ut i (by omega) (by omega)
       rw[J6 i (by omega),U7 i (by omega) br,eE i jM]
       have e:XS.take i=xs.take i:=by rw[← h3,List.take_take,Nat.min_eq_left (by omega)]
       rw[e];exact this
      have hq:=qF rC rH
      refine qU (K:=fun y σ'=>y=XS[i]'(by omega)∧σ'=iK) (E:=fun _ _=>False) mL hq g2 rh ⟨?_,fun _ _ _ _ _ _ h=>h.elim⟩
      rintro M3 x σ' v w' hM bo hx ⟨rfl,rfl⟩
      refine step M3 _ _ v w' XS hX hM bo hx rfl (fun _ _ _=>rfl) (.inl ⟨fun j hj wT=> ?_,rfl,h3⟩)
      rw[Z4,ZE,if_neg (by omega),← Z4]
      exact h1 j hj wT
     ·
      subst jM
      have cw:∀ d j,i-j=d→j<i→listed.getD j true=true:=by
       intro d
       induction d using Nat.strongRecOn with
       |_ d Wz=>
        intro j hd hj
        obtain⟨j',wS,atL,lL⟩:=asf eD hj (by omega)
        obtain⟨ha,hb,t,lO,ft⟩:=LP lL
        by_cases e:j'=i
        ·subst e;exact iT t ft j ha lO wS
        ·exact g7 j' hb (Wz (i-j') (by omega) j' rfl (by omega)) t ft j ha lO wS
      have hv:cT P cfg l[i] (fun x σ'=>yr P cfg (fun ao=>Q .normal ao σ') l2 (bM s.d x (cP l1 xs rg)) σ') (fun _ _=>False) (Sx.eC l[i].reads (cP (l.take i) (XS.take i) rg)) iK:=by
       have e0:l.take i=l1:=by rw[J6 i (ZK _),ZD (by omega)]
       rw[e0,h3]at rC ⊢
       rw[ui]at rC ⊢
       unfold cT
       rw[kB]
       dsimp only
       rw[← oO (fun t ht=>rC t (ZC _ ht))]
       exact lC
      refine qU (E:=fun _ _=>False) mL hv g2 rh ⟨?_,fun _ _ _ _ _ _ h=>h.elim⟩
      rintro M3 x σ' v w' hM bo hx ⟨ys,Ws,⟨fe,CG,hF⟩,Uu⟩
      have oi:=Vp
      have DD:xs.length=i:=by omega
      have wB:(xs++x::ys).length=l.length:=by simp[nc,Ws,oi];omega
      refine step M3 x σ' v w' (xs++x::ys) wB hM bo hx (by rw[Yx (by omega)];simp[DD]) (fun j hj iw=> ?_) (.inr ⟨fun j hj=> ?_,⟨fe,CG,fun t=> ?_⟩,fun j hj JG=> ?_⟩)
      ·have mQ:j<i:=by
        rcases Nat.lt_or_ge j i with h|h
        ·exact h
        ·rw[h1 j h hj]at iw;cases iw
       rw[eE j mQ,List.getElem_append_left (by omega)]
      ·by_cases e:j=i
       ·subst e;rw[Z4,ZE];simp[aT,eY]
       ·rw[Z4,ZE,if_neg (fun h=>e h.symm),← Z4]
        exact cw _ j rfl (by omega)
      ·rw[hF,← hL,xL l1 (s::l2) xs (x::ys) rg (by omega)];rfl
      ·have mP:j-i-1<l2.length:=by omega
       have:=Uu (j-i-1) mP (by omega)
       have e1:l[j]=l2[j-i-1]:=by
        simp only[← hL]
        rw[Yx (by omega)]
        simp only[hK]
        rw[List.getElem_cons,dif_neg (by omega)]
       have e2:(xs++x::ys)[j]'(by rw[wB];exact hj)=ys[j-i-1]'(by omega):=by
        rw[Yx (by omega)]
        simp only[DD]
        rw[List.getElem_cons,dif_neg (by omega)]
       have e3:l.take j=l1++s::l2.take (j-i-1):=by
        rw[← hL,List.take_append,ZD (by omega),hK]
        congr 1
        obtain⟨m,hm⟩:∃ m,j-i=m+1:=⟨j-i-1,by omega⟩
        rw[hm];rfl
       have e4:(xs++x::ys).take j=xs++x::ys.take (j-i-1):=by
        rw[List.take_append,ZD (by omega),DD]
        congr 1
        obtain⟨m,hm⟩:∃ m,j-i=m+1:=⟨j-i-1,by omega⟩
        rw[hm];rfl
       rw[e1,e2,e3,e4,xL l1 _ xs _ rg (by omega)]
       exact this
     ·exfalso
      obtain⟨j',kx,mP,lL⟩:=ase eD jM br
      obtain⟨ha,hb,t,lO,ft⟩:=LP lL
      have:=iT t ft j' ha lO mP
      rw[h1 j' kx ha]at this
      cases this
    ·
     have jM:k<i:=by
      rcases Nat.lt_or_ge k i with h|h
      ·exact h
      ·rw[h1 i h]at oo;cases oo
     have hq:=qF rC (h3 i br jM)
     refine qU (K:=fun y σ'=>y=XS[i]'(by omega)∧σ'=iK) (E:=fun _ _=>False) mL hq g2 rh ⟨?_,fun _ _ _ _ _ _ h=>h.elim⟩
     rintro M3 x σ' v w' hM bo hx ⟨rfl,rfl⟩
     refine step M3 _ _ v w' XS hX hM bo hx rfl (fun _ _ _=>rfl) (.inr ⟨fun j hj=> ?_,h2,h3⟩)
     rw[Z4,ZE,if_neg (by omega),← Z4]
     exact h1 j hj
 refine main ops.size _ a _ (by simp) ?_ ⟨M,σ,xs++List.replicate (l.length-k) .any,by simp;omega,Mem.le.refl _,hI.jJ,hN,hD,fun t _=>hR t,fun j hj t iw _=> ?_,fun j hj iw=> ?_,.inl ⟨fun j _ hj=> ?_,rfl,by rw[Y1 (by omega),ZD (by omega)]⟩⟩
 ·exact YJ (X3 _ _) (by simp)
 ·exfalso
  have rE:j<ops.size:=by omega
  simp[rE]at iw
 ·exfalso
  have rE:j<ops.size:=by omega
  simp[rE]at iw
 ·have rE:j<ops.size:=by omega
  simp[rE]
theorem Nk{K:ae→Store→Prop}:∀ (l:List CI) (rg eO:ae),(∀ i,lk rg i=lk eO i)→(∀ c∈l,c.op.cls≤1∨(c.op.cls=4∧c.g=none))→cx P cfg [] (bare l) K rg σ→
  ∃ xs:List AV,xs.length=l.length∧(∃ ao,K ao σ∧∀ i,lk ao i=lk (cP l xs eO) i)∧∀ i (h:i<l.length) (h':i<xs.length),QV P cfg l[i] (cP (l.take i) (xs.take i) eO) σ xs[i]:=ye
end
section
variable {P:Program}[Glob P]{N:Nat}{cfg:Nat→Nat}{Q:Exit→ae→Store→Prop}{rg:ae}{σ:Store}{k:List Fr}{xr:XR}
def xY(d:Nat):List CI→Option (List CI×CI×List CI)
 |[]=>none
 |c::l=>bif (match c.d with|some e=>Nat.beq e d|none=>false)then some ([],c,l)else match xY d l with
  |some (a,s,b)=>some (c::a,s,b)
  |none=>none
theorem MC{d:Nat}:∀ {l a b:List CI} {s:CI},xY d l=some (a,s,b)→l=a++s::b
 |[],_,_,_,h=>by cases h
 |c::l,a,b,s,h=>by
  simp only[xY]at h
  generalize (match c.d with|some e=>Nat.beq e d|none=>false)=q at h
  cases q with
  |true=>cases h;rfl
  |false=>
   simp only[X9]at h
   cases h2:xY d l with
   |none=>rw[h2]at h;cases h
   |some p=>obtain⟨a',s',b'⟩:=p;rw[h2]at h;cases h;rw[MC h2];rfl
def tu:List CI→Option (List CI×CI×List CI)
 |[]=>none
 |c::l=>bif Nat.beq c.op.cls 4 then some ([],c,l)else match tu l with
  |some (a,s,b)=>some (c::a,s,b)
  |none=>none
theorem Hv:∀ {l a b:List CI} {s:CI},tu l=some (a,s,b)→l=a++s::b∧s.op.cls=4
 |[],_,_,_,h=>by cases h
 |c::l,a,b,s,h=>by
  simp only[tu]at h
  cases q:Nat.beq c.op.cls 4 with
  |true=>rw[q]at h;cases h;exact⟨rfl,ZM q⟩
  |false=>
   rw[q]at h
   simp only[X9]at h
   cases h2:tu l with
   |none=>rw[h2]at h;cases h
   |some p=>
    obtain⟨a',s',b'⟩:=p
    rw[h2]at h
    cases h
    obtain⟨e,e2⟩:=Hv h2
    exact⟨by rw[e];rfl,e2⟩
theorem ata{P:Program}[Glob P]{cfg:Nat→Nat}{d:Option Nat}{rg:ae}{σ:Store}{K K':AV→Store→Prop}{E E':List PanicEntry→Store→Prop}{op:au}(h4:op.cls=4)(hk:∀ x σ',K x σ'→K' x σ')(h:aj P cfg d rg σ K E op):aj P cfg d rg σ K' E' op:=by
 cases op<;>simp only[au.cls,reduceCtorEq,Nat.reduceEqDiff,Nat.zero_ne_add_one]at h4
 ·simp only[aj]at h ⊢
  split at h
  ·exact⟨h.1,fun e=>hk _ _ (h.2.1 e),fun e b u c hu=>hk _ _ (h.2.2 e b u c hu)⟩
  ·exact⟨h.1,h.2.1,h.2.2.1,h.2.2.2.1,fun b u c hu=>hk _ _ (h.2.2.2.2 b u c hu)⟩
  ·exact⟨h.1,h.2.1,fun e=>hk _ _ (h.2.2.1 e),fun e b u c=>hk _ _ (h.2.2.2 e b u c)⟩
  ·exact h.elim
 ·exact jF.mono h hk
def vE(P:Program)[Glob P](cfg:Nat→Nat)(l2:List CI)(K:ae→Store→Prop)(rg:ae)(σ:Store):Prop:=cx P cfg [] (bare l2) (Cl K) rg σ
def s0(P:Program)[Glob P](cfg:Nat→Nat)(K:ae→Store→Prop)(s:CI)(l2:List CI)(rg:ae)(σ:Store):Prop:=dO P cfg [s] (vE P cfg l2 K) (fun _ _=>False) rg σ
theorem Oi{P:Program}[Glob P]{N:Nat}{l1 l2:List CI}{s:CI}{Q:Exit→ae→Store→Prop}{rg:ae}{σ:Store}(cfg:Nat→Nat)(h4:s.op.cls=4)(eD:qk (l1++s::l2) l1.length=true)(kB:s.g=none)
  (h:cx P cfg [] (bare l1) (s0 P cfg (Q .normal) s l2) rg σ):SW P N (.dc (l1++s::l2)) Q rg σ:=by
 refine yu (Od cfg (.inl h4) eD kB fun hc=> ?_)
 have wJ:=yf l1 rg (fun c h=>hc c (by simp[h])) h
 obtain⟨xs,h1,⟨ct,hM,h3⟩,Ue⟩:=Nk l1 rg rg (fun _=>rfl) (fun c h=>hc c (by simp[h])) h
 refine⟨xs,h1,Ue,?_,wJ⟩
 rw[← oO (rg:=ct) (fun t _=>h3 t)]
 simp only[s0,dO,cT,kB]at hM
 refine ata h4 (fun x σ' hx=> ?_) hM
 exact ye l2 _ _ (uH h3 s.d x) (fun c h=>hc c (by simp[h])) hx
theorem PW{l l1 l2:List CI}{s:CI}(hl:tu l=some (l1,s,l2))(eD:qk l l1.length=true)(kB:s.g=none)(hx:iJ rg=some xr)
  (h:VY P cfg [] (bare l1) (s0 P cfg (FK P N cfg Q .normal k) s l2) xr σ):WK P N cfg Q (.dc l) k rg σ:=by
 obtain⟨e,h4⟩:=Hv hl
 subst e
 refine⟨WA.mono (Q:=fun e=>FK P N cfg Q e k) ⟨rfl,Oi cfg h4 eD kB ?_⟩ fun _ _ _ h=>h.h⟩
 have:=h.h
 rw[← su hx,qO]at this
 exact this
theorem Pz{K:ae→Store→Prop}{s:CI}{l2:List CI}(h:VX P cfg [s] (vE P cfg l2 K) (fun _ _=>False) xr σ):VY P cfg [] [] (s0 P cfg K s l2) xr σ:=⟨h.h⟩
theorem O4{K:ae→Store→Prop}{E:List PanicEntry→Store→Prop}{l2:List CI}(h:VY P cfg [] (bare l2) (Cl K) xr σ):VX P cfg [] (vE P cfg l2 K) E xr σ:=⟨h.h⟩
end
end Go.Sx
