/-
  A region of open order with one call that turns the store: what the call reads, the call, what reads it.
-/
import Derived.Test.YtbihckigennlhaaGreatDoorSxX3
set_option linter.unusedVariables false
set_option linter.unusedSimpArgs false
set_option linter.unusedSectionVars false
namespace Go.Sx
open Go.RowKit
def rdOf(l:List CI)(a b:Nat):Bool:=match l[a]?,l[b]? with
 |some x,some y=>match x.d with
  |some t=>y.reads.elem t
  |none=>false
 |_,_=>false
def spOK(l:List CI)(k:Nat):Bool:=(List.range l.length).all fun j=>
 bif Nat.blt j k then(List.range (k+1)).any fun i=>Nat.blt j i && rdOf l j i
 else(Nat.beq j k || (List.range j).any fun i=>Nat.ble k i && rdOf l i j)
theorem rdOf_eq{l:List CI}{a b:Nat}(h:rdOf l a b=true):∃ (ha:a<l.length) (hb:b<l.length) (t:Nat),l[a].d=some t∧t∈l[b].reads:=by
 unfold rdOf at h
 split at h
 ·rename_i x y hx hy
  obtain⟨h1,h2⟩:=List.getElem?_eq_some_iff.1 hx
  obtain⟨h3,h4⟩:=List.getElem?_eq_some_iff.1 hy
  split at h
  ·rename_i t ht
   exact⟨h1,h3,t,by rw[h2];exact ht,by rw[h4];exact List.elem_iff.1 h⟩
  ·cases h
 ·cases h
theorem spOK_lo{l:List CI}{k j:Nat}(h:spOK l k=true)(hj:j<k)(hl:j<l.length):∃ i,j<i∧i≤k∧rdOf l j i=true:=by
 unfold spOK at h
 have:=List.all_eq_true.1 h j (by simpa using hl)
 have e:Nat.blt j k=true:=Nat.ble_eq_true_of_le hj
 rw[e]at this
 obtain⟨i,h1,h2⟩:=List.any_eq_true.1 this
 rw[Bool.and_eq_true]at h2
 exact⟨i,Nat.le_of_ble_eq_true h2.1,by have:=List.mem_range.1 h1;omega,h2.2⟩
theorem spOK_hi{l:List CI}{k j:Nat}(h:spOK l k=true)(hj:k<j)(hl:j<l.length):∃ i,k≤i∧i<j∧rdOf l i j=true:=by
 unfold spOK at h
 have:=List.all_eq_true.1 h j (by simpa using hl)
 have e:Nat.blt j k=false:=by
  cases e:Nat.blt j k with
  |false=>rfl
  |true=>have:j+1≤k:=Nat.le_of_ble_eq_true e;omega
 have e2:Nat.beq j k=false:=by
  cases e:Nat.beq j k with
  |false=>rfl
  |true=>have:=Nat.eq_of_beq_eq_true e;omega
 rw[e,e2]at this
 obtain⟨i,h1,h2⟩:=List.any_eq_true.1 this
 rw[Bool.and_eq_true]at h2
 exact⟨i,Nat.le_of_ble_eq_true h2.1,List.mem_range.1 h1,h2.2⟩
theorem puts_append:∀ (l l':List CI) (xs ys:List AV) (rg:Regs),xs.length=l.length→puts (l++l') (xs++ys) rg=puts l' ys (puts l xs rg)
 |[],l',[],ys,rg,_=>by simp[puts]
 |c::l,l',x::xs,ys,rg,h=>by
  simp only[List.cons_append,puts]
  exact puts_append l l' xs ys _ (by simpa using h)
 |[],_,_::_,_,_,h=>by simp at h
 |_::_,_,[],_,_,h=>by simp at h
section
variable {P:Program}[Glob P]{M:Mem}{w0:Base}{w:World}{σ:Store}{rg:Regs}{a:Act}{cfg:Nat→Nat}{N:Nat}
theorem SW_chainS{l1 l2:List CI}{s:CI}{Q:Exit→Regs→Store→Prop}(cfg:Nat→Nat)(hs4:s.op.cls=4∨pos4 (l1++s::l2) 0=none)(hsp:spOK (l1++s::l2) l1.length=true)(hsg:s.g=none)
  (h:(∀ c∈l1++s::l2,c.op.cls≤1∨(c.op.cls=4∧c.g=none))→∃ xs:List AV,xs.length=l1.length∧(∀ i (h:i<l1.length) (h':i<xs.length),QV P cfg l1[i] (puts (l1.take i) (xs.take i) rg) σ xs[i])∧
   vcO P cfg s.d (puts l1 xs rg) σ (fun x σ'=>Chain P cfg (fun rg'=>Q .normal rg' σ') l2 (putR s.d x (puts l1 xs rg)) σ') (fun _ _=>False) s.op∧(∀ c∈l1,c.op.cls≤1)):
  SW P N (.dreg (l1++s::l2)) Q rg σ:=by
 intro c hc M w0 a w hI hR hN hD
 obtain⟨id,ops,rfl,hl,hok,hfol⟩:=compC_inv hc
 obtain⟨hlen,hget⟩:=compL_get ops.toList _ hl
 obtain⟨xs,hxl,hQ1,hcall,hcl1⟩:=h (drawOK_cls hok)
 clear h
 obtain⟨k,hK⟩:∃ k,l1.length=k:=⟨_,rfl⟩
 have hk0:k<(l1++s::l2).length:=by simp[hK]
 have hlk0:(l1++s::l2)[k]=s:=by simp[← hK]
 have htk0:∀ i,i≤k→(l1++s::l2).take i=l1.take i:=fun i hi=>by rw[List.take_append_of_le_length (by omega)]
 have hget0:∀ i (h:i<k) (h':i<(l1++s::l2).length),(l1++s::l2)[i]=l1[i]'(by omega):=fun i h h'=>by simp[hK,h]
 have hll0:(l1++s::l2).length=k+(1+l2.length):=by simp[hK];omega
 have hp4:∀ k',pos4 (l1++s::l2) 0=some k'→k'=k:=by
  intro k' h4
  rcases hs4 with hs4|hs4
  case inr=>rw[hs4]at h4;cases h4
  obtain⟨i,hi,e,h4,hmin⟩:=pos4_some _ _ h4
  rcases Nat.lt_trichotomy i k with h|h|h
  ·exfalso
   rw[hget0 i h hi]at h4
   have:=hcl1 _ (List.getElem_mem (show i<l1.length by omega))
   omega
  ·omega
  ·exfalso
   exact hmin k h hk0 (by rw[hlk0];exact hs4)
 rw[hK]at hsp
 generalize hL:l1++s::l2=l at *
 have hk:=hk0
 have hlk:=hlk0
 have htk:=htk0
 have hget1:=hget0
 have hlen':l.length=ops.size:=by simpa using hlen
 have hlook:(l.map (·.d)).Nodup∧∀ x∈(l.zip ops.toList).zipIdx,(x.1.2.after.all fun e=> !Region.binds .any e || decide (e.on<x.2))=true∧
   (x.1.1.reads.all fun t=>match posOf t (l.map (·.d)) 0 with
    |some j=>(x.1.2.after.any fun e=>Region.binds .any e && e.on == j) || (Nat.ble x.2 k && Nat.blt k j)
    |none=>true)=true:=by
  rcases hok with hok|hok
  ·unfold drawOK at hok
   simp only[Bool.and_eq_true,decide_eq_true_eq]at hok
   obtain⟨⟨hnd,_⟩,hdep⟩:=hok
   rw[List.all_eq_true]at hdep
   refine⟨hnd,fun x hx=> ?_⟩
   have:=hdep x hx
   simp only[Bool.and_eq_true]at this
   refine⟨this.1,List.all_eq_true.2 fun t ht=> ?_⟩
   have h3:=List.all_eq_true.1 this.2 t ht
   split at h3
   ·rename_i j e;simp only[e];rw[h3];rfl
   ·rename_i e;simp only[e]
  ·unfold drawS at hok
   split at hok
   ·cases hok
   ·rename_i k' e
    simp only[Bool.and_eq_true,decide_eq_true_eq]at hok
    obtain⟨⟨hnd,_⟩,hdep⟩:=hok
    rw[List.all_eq_true]at hdep
    have e':=hp4 k' e
    subst e'
    refine⟨hnd,fun x hx=> ?_⟩
    have:=hdep x hx
    simp only[Bool.and_eq_true]at this
    exact this
 obtain⟨hnd,hdep⟩:=hlook
 have hst:∀ i (hi:i<l.length) (ho:i<ops.size),(∀ e∈ops[i].after,Region.binds .any e=true→e.on<i)∧∀ t∈l[i].reads,(∀ c∈l,c.d≠some t)∨(∃ j,∃ hj:j<l.length,l[j].d=some t∧j<i∧∃ e∈ops[i].after,Region.binds .any e=true∧e.on=j)∨
   ∃ j,∃ hj:j<l.length,l[j].d=some t∧i≤k∧k<j:=by
  intro i hi ho
  have hm:((l[i],ops[i]),i)∈(l.zip ops.toList).zipIdx:=by
   rw[List.mem_zipIdx_iff_getElem?]
   simp[List.getElem?_zip_eq_some,hi,ho]
  obtain⟨h1,h2⟩:=hdep _ hm
  have hb:∀ e∈ops[i].after,Region.binds .any e=true→e.on<i:=by
   intro e he hbe
   have:=Array.all_eq_true_iff_forall_mem.1 h1 e he
   simpa[hbe]using this
  refine⟨hb,fun t ht=> ?_⟩
  have h3:=List.all_eq_true.1 h2 t ht
  split at h3
  ·rename_i j hj
   right
   have hjl:j<l.length∧(l.map (·.d))[j]? =some (some t):=by
    obtain⟨i',h5,h6⟩:=posOf_some _ _ hj
    obtain rfl:j=i':=by omega
    exact⟨by have:=(List.getElem?_eq_some_iff.1 h6).1;simpa using this,h6⟩
   obtain⟨hj1,hj2⟩:=hjl
   rw[Bool.or_eq_true]at h3
   rcases h3 with h3|h3
   ·left
    rw[Array.any_eq_true]at h3
    obtain⟨m,hm2,h4⟩:=h3
    simp only[Bool.and_eq_true,beq_iff_eq]at h4
    refine⟨j,hj1,by simpa[hj1]using hj2,?_,ops[i].after[m],Array.getElem_mem hm2,h4.1,h4.2⟩
    rw[← h4.2]
    exact hb _ (Array.getElem_mem hm2) h4.1
   ·right
    rw[Bool.and_eq_true]at h3
    exact⟨j,hj1,by simpa[hj1]using hj2,Nat.le_of_ble_eq_true h3.1,Nat.le_of_ble_eq_true h3.2⟩
  ·rename_i hj
   left
   intro c hc e
   exact posOf_none _ _ hj (by rw[← e];exact List.mem_map_of_mem hc)
 have hRGj:∀ (XS:List AV) (hX:XS.length=l.length) j (h:j<l.length) t,l[j].d=some t→lk (puts l XS rg) t=XS[j]'(by omega):=fun XS hX j h t ht=>lk_puts l XS rg hnd hX j h (by omega) t ht
 have hRGn:∀ (XS:List AV) t,(∀ c∈l,c.d≠some t)→lk (puts l XS rg) t=lk rg t:=fun XS t ht=>lk_puts_not l XS rg t ht
 have huniq:∀ j j' t,(hj:j<l.length)→(hj':j'<l.length)→l[j].d=some t→l[j'].d=some t→j=j':=by
  intro j j' t hj hj' hjd hjd'
  have hpw:=List.pairwise_iff_getElem.1 hnd
  rcases Nat.lt_trichotomy j j' with h|h|h
  ·exact((hpw j j' (by simpa using hj) (by simpa using hj') h) (by simp[hjd,hjd'])).elim
  ·exact h
  ·exact((hpw j' j (by simpa using hj') (by simpa using hj) h) (by simp[hjd,hjd'])).elim
 refine cwp_any hfol ?_
 have main:∀ (fuel:Nat) (listed:Array Bool) (a:Act) (w:World),listed.size=ops.size→((List.range ops.size).filter (fun i=> !listed.getD i true)).length≤fuel→
   (∃ M2 σc XS,∃ hX:XS.length=l.length,M.le M2∧Inv P M2 w0 σc w∧a.tmps.size=N∧a.defers=Glob.df P∧(∀ t,(∀ j (h:j<l.length),listed.getD j true=true→l[j].d≠some t)→R M2 (lk rg t) (a.tmps.getD t undef))∧
    (∀ j (h:j<l.length) t,listed.getD j true=true→l[j].d=some t→R M2 (XS[j]'(by omega)) (a.tmps.getD t undef))∧
    (∀ j (h:j<l.length),listed.getD j true=true→∀ t∈l[j].reads,∀ i (hi:i<l.length),l[i].d=some t→i<j→listed.getD i true=true)∧
    (((∀ j,k≤j→j<l.length→listed.getD j true=false)∧σc=σ∧XS.take k=xs)∨
     ((∀ j,j≤k→listed.getD j true=true)∧(∃ rgF,Q .normal rgF σc∧∀ i,lk rgF i=lk (puts l XS rg) i)∧∀ j (h:j<l.length),k<j→QV P cfg l[j] (puts (l.take j) (XS.take j) rg) σc (XS[j]'(by omega)))))→
   wpAny P .any ops (conc P M w0 N Q) fuel listed a w:=by
  have fin:∀ (listed:Array Bool) (a:Act) (w:World),(∀ i,i<ops.size→listed.getD i true=true)→(∃ M2 σc XS,∃ hX:XS.length=l.length,M.le M2∧Inv P M2 w0 σc w∧a.tmps.size=N∧a.defers=Glob.df P∧(∀ t,(∀ j (h:j<l.length),listed.getD j true=true→l[j].d≠some t)→R M2 (lk rg t) (a.tmps.getD t undef))∧
    (∀ j (h:j<l.length) t,listed.getD j true=true→l[j].d=some t→R M2 (XS[j]'(by omega)) (a.tmps.getD t undef))∧
    (∀ j (h:j<l.length),listed.getD j true=true→∀ t∈l[j].reads,∀ i (hi:i<l.length),l[i].d=some t→i<j→listed.getD i true=true)∧
    (((∀ j,k≤j→j<l.length→listed.getD j true=false)∧σc=σ∧XS.take k=xs)∨
     ((∀ j,j≤k→listed.getD j true=true)∧(∃ rgF,Q .normal rgF σc∧∀ i,lk rgF i=lk (puts l XS rg) i)∧∀ j (h:j<l.length),k<j→QV P cfg l[j] (puts (l.take j) (XS.take j) rg) σc (XS[j]'(by omega)))))→conc P M w0 N Q .normal a w:=by
   rintro listed a w hall ⟨M2,σc,XS,hX,g1,g2,g3,g4,g5,g6,g7,⟨h1,_,_⟩|⟨h1,⟨rgF,hKF,hF⟩,h3⟩⟩
   ·exfalso
    have:=hall k (by omega)
    rw[h1 k (Nat.le_refl _) hk]at this
    cases this
   ·refine⟨M2,rgF,σc,g1,g2,fun t=> ?_,g3,g4,hKF⟩
    rw[hF]
    by_cases ht:∃ j,∃ h:j<l.length,l[j].d=some t
    ·obtain⟨j,hj,hjd⟩:=ht
     rw[hRGj XS hX j hj t hjd]
     exact g6 j hj t (hall j (by omega)) hjd
    ·have hn:∀ c∈l,c.d≠some t:=fun c hc e=>by
      obtain⟨j,hj,rfl⟩:=List.mem_iff_getElem.1 hc
      exact ht ⟨j,hj,e⟩
     rw[hRGn XS t hn]
     exact g5 t (fun j hj _=>hn _ (List.getElem_mem hj))
  intro fuel
  induction fuel with
  |zero=>
   intro listed a w hsz hcnt hst2
   have hall:∀ i,i<ops.size→listed.getD i true=true:=by
    intro i hi
    cases hli:listed.getD i true with
    |true=>rfl
    |false=>
     have:i∈(List.range ops.size).filter (fun i=> !listed.getD i true):=by simp only[List.mem_filter,List.mem_range,hi,hli,Bool.not_false,and_self]
     have:=List.length_pos_of_mem this
     omega
   refine⟨?_,fin listed a w hall hst2⟩
   unfold Region.ready
   rw[List.filter_eq_nil_iff]
   intro i hi
   simp[hall i (by simpa using hi)]
  |succ fuel ih=>
   intro listed a w hsz hcnt hst2
   refine⟨fun hr=> ?_,fun i hi=> ?_⟩
   ·
    have hall:∀ i,i<ops.size→listed.getD i true=true:=by
     intro i
     induction i using Nat.strongRecOn with
     |_ i ihi=>
      intro hi
      cases hli:listed.getD i true with
      |true=>rfl
      |false=>
       have:i∈Region.ready .any ops listed:=by
        unfold Region.ready
        rw[List.mem_filter]
        refine⟨by simpa using hi,?_⟩
        simp only[hli,Bool.not_false,Bool.true_and,Array.getElem?_eq_getElem hi,Option.map_some,Option.getD_some]
        rw[Array.all_eq_true_iff_forall_mem]
        intro e he
        cases hbe:Region.binds .any e with
        |false=>rfl
        |true=>
         have hlt:=(hst i (by omega) hi).1 e he hbe
         have:=ihi e.on hlt (by omega)
         have h2:listed.getD e.on false=true:=by
          rw[Array.getD_eq_getD_getElem?]at this ⊢
          rw[Array.getElem?_eq_getElem (by omega)]at this ⊢
          exact this
         simp[h2]
       rw[hr]at this
       cases this
    exact fin listed a w hall hst2
   ·unfold Region.ready at hi
    rw[List.mem_filter]at hi
    obtain⟨hi1,hi2⟩:=hi
    have hio:i<ops.size:=by simpa using hi1
    simp only[Bool.and_eq_true,Bool.not_eq_true',Array.getElem?_eq_getElem hio,Option.map_some,Option.getD_some]at hi2
    obtain⟨hnl,hdeps⟩:=hi2
    have hil:i<l.length:=by omega
    have hci:compI P N ops ops[i]=some l[i]:=by have:=hget i (by simpa using hio) hil;simpa using this
    obtain⟨hdst,hlt⟩:=compI_lt hci
    obtain⟨M2,σc,XS,hX,g1,g2,g3,g4,g5,g6,g7,g8⟩:=hst2
    have hrl:∀ t∈l[i].reads,∀ j (hj:j<l.length),l[j].d=some t→j<i→listed.getD j true=true:=by
     intro t ht j hj hjd hji0
     rcases(hst i hil hio).2 t ht with hn|⟨j',hj',hjd',hji,e,he,hbe,hej⟩|⟨j',hj',hjd',hk1,hk2⟩
     ·exact absurd hjd (hn _ (List.getElem_mem hj))
     ·have hjj:=huniq j j' t hj hj' hjd hjd'
      subst hjj
      have:=Array.all_eq_true_iff_forall_mem.1 hdeps e he
      simp only[hbe,Bool.not_true,Bool.false_or,hej]at this
      rw[Array.getD_eq_getD_getElem?]at this ⊢
      rw[Array.getElem?_eq_getElem (by omega)]at this ⊢
      exact this
     ·have hjj:=huniq j j' t hj hj' hjd hjd'
      omega
    have hR':RegsOK M2 (Sx.filt l[i].reads (puts (l.take i) (XS.take i) rg)) a:=by
     intro t
     by_cases ht:t∈l[i].reads
     ·rw[SW_chain.lk_filt_mem ht]
      have hlt:∀ j (hj:j<l.length),l[j].d=some t→i<j→lk (puts (l.take i) (XS.take i) rg) t=lk rg t:=fun j hj hjd hij=>
       lk_puts_not _ _ _ _ (fun c hc e=>by
        obtain⟨m,hm,rfl⟩:=List.mem_iff_getElem.1 hc
        simp only[List.length_take]at hm
        rw[List.getElem_take]at e
        have:=huniq m j t (by omega) hj e hjd
        omega)
      rcases(hst i hil hio).2 t ht with hn|⟨j,hj,hjd,hji,_⟩|⟨j,hj,hjd,hk1,hk2⟩
      ·rw[lk_puts_not _ _ _ _ (fun c hc=>hn c (List.mem_of_mem_take hc))]
       exact g5 t (fun j hj _=>hn _ (List.getElem_mem hj))
      ·have e1:(l.take i)[j]'(by simp;omega)=l[j]:=by simp
       have e2:(XS.take i)[j]'(by simp;omega)=XS[j]'(by omega):=by simp
       rw[lk_puts (l.take i) (XS.take i) rg (by rw[List.map_take];exact hnd.sublist (List.take_sublist _ _)) (by simp[hX]) j (by simp;omega) (by simp;omega) t (by rw[e1];exact hjd),e2]
       exact g6 j hj t (hrl t ht j hj hjd hji) hjd
      ·rw[hlt j hj hjd (by omega)]
       refine g5 t (fun j' hj' hl' e=> ?_)
       have:=huniq j' j t hj' hj e hjd
       subst this
       rcases g8 with⟨h1,_,_⟩|⟨h1,_,_⟩
       ·rw[h1 j' (by omega) hj']at hl';cases hl'
       ·rw[h1 i hk1]at hnl;cases hnl
     ·rw[SW_chain.lk_filt_not ht];exact .any _
    have hfm:∀ t∈l[i].reads,lk (puts (l.take i) (XS.take i) rg) t=lk (Sx.filt l[i].reads (puts (l.take i) (XS.take i) rg)) t:=fun t ht=>by
     rw[SW_chain.lk_filt_mem ht]
    have step:∀ M3 (x:AV) σ' v w' XS' (hX':XS'.length=l.length),M2.le M3→Inv P M3 w0 σ' w'→R M3 x v→XS'[i]'(by omega)=x→(∀ j (hj:j<l.length),listed.getD j true=true→XS'[j]'(by omega)=XS[j]'(by omega))→
      (((∀ j,k≤j→j<l.length→(listed.setIfInBounds i true).getD j true=false)∧σ'=σ∧XS'.take k=xs)∨
       ((∀ j,j≤k→(listed.setIfInBounds i true).getD j true=true)∧(∃ rgF,Q .normal rgF σ'∧∀ i,lk rgF i=lk (puts l XS' rg) i)∧∀ j (h:j<l.length),k<j→QV P cfg l[j] (puts (l.take j) (XS'.take j) rg) σ' (XS'[j]'(by omega))))→
      wpAny P .any ops (conc P M w0 N Q) fuel (listed.setIfInBounds i true) (a.put ops[i].dst v) w':=by
     intro M3 x σ' v w' XS' hX' hM hI' hx hxi hxj hph
     have hset:∀ j,j≠i→(listed.setIfInBounds i true).getD j true=listed.getD j true:=fun j hj=>by
      rw[Array.getD_eq_getD_getElem?,Array.getElem?_setIfInBounds,if_neg (fun e=>hj e.symm),Array.getD_eq_getD_getElem?]
     have hseti:(listed.setIfInBounds i true).getD i true=true:=by
      rw[Array.getD_eq_getD_getElem?,Array.getElem?_setIfInBounds];simp[hsz,hio]
     refine ih _ _ _ (by simp[hsz]) ?_ ⟨M3,σ',XS',hX',g1.trans hM,hI',by rw[Act.size_put];exact g3,by rw[Act.defers_put];exact g4,fun t ht=> ?_,fun j hj t hlj hjd=> ?_,fun j hj hlj t ht j' hj' hjd hj'j=> ?_,hph⟩
     ·have:=filter_lt (fun i=> !listed.getD i true) (fun k=> !(listed.setIfInBounds i true).getD k true) (List.range ops.size) (fun k _ hk=>by
       simp only[Bool.not_eq_true']at hk ⊢
       by_cases hki:k=i
       ·subst hki;rw[hseti]at hk;cases hk
       ·rw[hset k hki]at hk;exact hk) ⟨i,hi1,by simpa using hnl,by simp only[Bool.not_eq_false'];exact hseti⟩
      omega
     ·have hne:ops[i].dst≠some t:=by rw[← hdst];exact ht i hil hseti
      have:=(g5 t (fun j hj hl=>ht j hj (by by_cases e:j=i;·subst e;exact hseti
                                            ·rw[hset j e];exact hl))).mono hM
      have e:(a.put ops[i].dst v).tmps.getD t undef=a.tmps.getD t undef:=by
       cases hd:ops[i].dst with
       |none=>rfl
       |some u=>
        have hut:u≠t:=fun e=>hne (by rw[hd,e])
        simp[Act.put,Array.getElem?_setIfInBounds_ne hut]
      rw[e];exact this
     ·by_cases hij:j=i
      ·subst hij
       have hd:ops[j].dst=some t:=by rw[← hdst];exact hjd
       have htN:t<a.tmps.size:=by rw[g3];exact hlt t hjd
       have e:(a.put ops[j].dst v).tmps.getD t undef=v:=by simp[hd,Act.put,htN]
       rw[e,hxi];exact hx
      ·have hlj':listed.getD j true=true:=by rw[← hset j hij];exact hlj
       have:=(g6 j hj t hlj' hjd).mono hM
       have e:(a.put ops[i].dst v).tmps.getD t undef=a.tmps.getD t undef:=by
        cases hd:ops[i].dst with
        |none=>rfl
        |some u=>
         have hut:u≠t:=fun e=>by
          subst e
          have h1:l[i].d=some u:=hdst.trans hd
          have hpw:=List.pairwise_iff_getElem.1 hnd
          rcases Nat.lt_trichotomy i j with h|h|h
          ·exact hpw i j (by simpa using hil) (by simpa using hj) h (by simp[h1,hjd])
          ·exact hij h.symm
          ·exact hpw j i (by simpa using hj) (by simpa using hil) h (by simp[h1,hjd])
         simp[Act.put,Array.getElem?_setIfInBounds_ne hut]
       rw[e,hxj j hj hlj'];exact this
     ·by_cases hji':j'=i
      ·subst hji';exact hseti
      ·rw[hset j' hji']
       by_cases hij:j=i
       ·subst hij;exact hrl t ht j' hj' hjd hj'j
       ·rw[hset j hij]at hlj
        exact g7 j hj hlj t ht j' hj' hjd hj'j
    unfold wpOp
    simp only[Array.getElem?_eq_getElem hio]
    rcases g8 with⟨h1,rfl,h3⟩|⟨h1,h2,h3⟩
    ·
     have hxs:∀ j (hj:j<k),XS[j]'(by omega)=xs[j]'(by omega):=fun j hj=>by subst h3;simp
     rcases Nat.lt_trichotomy i k with hik|hik|hik
     ·have hq0:QV P cfg l[i] (puts (l.take i) (XS.take i) rg) σc (XS[i]'(by omega)):=by
       have:=hQ1 i (by omega) (by omega)
       rw[htk i (by omega),hget1 i (by omega) hil,hxs i hik]
       have e:XS.take i=xs.take i:=by rw[← h3,List.take_take,Nat.min_eq_left (by omega)]
       rw[e];exact this
      have hq:=QV_local hfm hq0
      refine guard_sound (K:=fun y σ'=>y=XS[i]'(by omega)∧σ'=σc) (E:=fun _ _=>False) hci hq g2 hR' ⟨?_,fun _ _ _ _ _ _ h=>h.elim⟩
      rintro M3 x σ' v w' hM hI' hx ⟨rfl,rfl⟩
      refine step M3 _ _ v w' XS hX hM hI' hx rfl (fun _ _ _=>rfl) (.inl ⟨fun j hj hjl=> ?_,rfl,h3⟩)
      rw[Array.getD_eq_getD_getElem?,Array.getElem?_setIfInBounds,if_neg (by omega),← Array.getD_eq_getD_getElem?]
      exact h1 j hj hjl
     ·
      subst hik
      have hall:∀ d j,i-j=d→j<i→listed.getD j true=true:=by
       intro d
       induction d using Nat.strongRecOn with
       |_ d ihd=>
        intro j hd hj
        obtain⟨j',hjj,hj'k,hrd⟩:=spOK_lo hsp hj (by omega)
        obtain⟨ha,hb,t,ht1,ht2⟩:=rdOf_eq hrd
        by_cases e:j'=i
        ·subst e;exact hrl t ht2 j ha ht1 hjj
        ·exact g7 j' hb (ihd (i-j') (by omega) j' rfl (by omega)) t ht2 j ha ht1 hjj
      have hv:vcG P cfg l[i] (fun x σ'=>Chain P cfg (fun rg'=>Q .normal rg' σ') l2 (putR s.d x (puts l1 xs rg)) σ') (fun _ _=>False) (Sx.filt l[i].reads (puts (l.take i) (XS.take i) rg)) σc:=by
       have e0:l.take i=l1:=by rw[htk i (Nat.le_refl _),List.take_of_length_le (by omega)]
       rw[e0,h3]at hfm ⊢
       rw[hlk]at hfm ⊢
       unfold vcG
       rw[hsg]
       dsimp only
       rw[← vcO_local (fun t ht=>hfm t (List.mem_append_left _ ht))]
       exact hcall
      refine guard_sound (E:=fun _ _=>False) hci hv g2 hR' ⟨?_,fun _ _ _ _ _ _ h=>h.elim⟩
      rintro M3 x σ' v w' hM hI' hx ⟨ys,hyl,⟨rgF,hKF,hF⟩,hQ2⟩
      have hll:=hll0
      have hxk:xs.length=i:=by omega
      have hX':(xs++x::ys).length=l.length:=by simp[hxl,hyl,hll];omega
      refine step M3 x σ' v w' (xs++x::ys) hX' hM hI' hx (by rw[List.getElem_append_right (by omega)];simp[hxk]) (fun j hj hlj=> ?_) (.inr ⟨fun j hj=> ?_,⟨rgF,hKF,fun t=> ?_⟩,fun j hj hkj=> ?_⟩)
      ·have hji:j<i:=by
        rcases Nat.lt_or_ge j i with h|h
        ·exact h
        ·rw[h1 j h hj]at hlj;cases hlj
       rw[hxs j hji,List.getElem_append_left (by omega)]
      ·by_cases e:j=i
       ·subst e;rw[Array.getD_eq_getD_getElem?,Array.getElem?_setIfInBounds];simp[hsz,hio]
       ·rw[Array.getD_eq_getD_getElem?,Array.getElem?_setIfInBounds,if_neg (fun h=>e h.symm),← Array.getD_eq_getD_getElem?]
        exact hall _ j rfl (by omega)
      ·rw[hF,← hL,puts_append l1 (s::l2) xs (x::ys) rg (by omega)];rfl
      ·have hj2:j-i-1<l2.length:=by omega
       have:=hQ2 (j-i-1) hj2 (by omega)
       have e1:l[j]=l2[j-i-1]:=by
        simp only[← hL]
        rw[List.getElem_append_right (by omega)]
        simp only[hK]
        rw[List.getElem_cons,dif_neg (by omega)]
       have e2:(xs++x::ys)[j]'(by rw[hX'];exact hj)=ys[j-i-1]'(by omega):=by
        rw[List.getElem_append_right (by omega)]
        simp only[hxk]
        rw[List.getElem_cons,dif_neg (by omega)]
       have e3:l.take j=l1++s::l2.take (j-i-1):=by
        rw[← hL,List.take_append,List.take_of_length_le (by omega),hK]
        congr 1
        obtain⟨m,hm⟩:∃ m,j-i=m+1:=⟨j-i-1,by omega⟩
        rw[hm];rfl
       have e4:(xs++x::ys).take j=xs++x::ys.take (j-i-1):=by
        rw[List.take_append,List.take_of_length_le (by omega),hxk]
        congr 1
        obtain⟨m,hm⟩:∃ m,j-i=m+1:=⟨j-i-1,by omega⟩
        rw[hm];rfl
       rw[e1,e2,e3,e4,puts_append l1 _ xs _ rg (by omega)]
       exact this
     ·exfalso
      obtain⟨j',hj1,hj2,hrd⟩:=spOK_hi hsp hik hil
      obtain⟨ha,hb,t,ht1,ht2⟩:=rdOf_eq hrd
      have:=hrl t ht2 j' ha ht1 hj2
      rw[h1 j' hj1 ha]at this
      cases this
    ·
     have hik:k<i:=by
      rcases Nat.lt_or_ge k i with h|h
      ·exact h
      ·rw[h1 i h]at hnl;cases hnl
     have hq:=QV_local hfm (h3 i hil hik)
     refine guard_sound (K:=fun y σ'=>y=XS[i]'(by omega)∧σ'=σc) (E:=fun _ _=>False) hci hq g2 hR' ⟨?_,fun _ _ _ _ _ _ h=>h.elim⟩
     rintro M3 x σ' v w' hM hI' hx ⟨rfl,rfl⟩
     refine step M3 _ _ v w' XS hX hM hI' hx rfl (fun _ _ _=>rfl) (.inr ⟨fun j hj=> ?_,h2,h3⟩)
     rw[Array.getD_eq_getD_getElem?,Array.getElem?_setIfInBounds,if_neg (by omega),← Array.getD_eq_getD_getElem?]
     exact h1 j hj
 refine main ops.size _ a _ (by simp) ?_ ⟨M,σ,xs++List.replicate (l.length-k) .any,by simp;omega,Mem.le.refl _,hI.drew',hN,hD,fun t _=>hR t,fun j hj t hlj _=> ?_,fun j hj hlj=> ?_,.inl ⟨fun j _ hj=> ?_,rfl,by rw[List.take_append_of_le_length (by omega),List.take_of_length_le (by omega)]⟩⟩
 ·exact Nat.le_trans (List.length_filter_le _ _) (by simp)
 ·exfalso
  have hjo:j<ops.size:=by omega
  simp[hjo]at hlj
 ·exfalso
  have hjo:j<ops.size:=by omega
  simp[hjo]at hlj
 ·have hjo:j<ops.size:=by omega
  simp[hjo]
theorem vcM_chainK{K:Regs→Store→Prop}:∀ (l:List CI) (rg rg0:Regs),(∀ i,lk rg i=lk rg0 i)→(∀ c∈l,c.op.cls≤1∨(c.op.cls=4∧c.g=none))→vcM P cfg [] (bare l) K rg σ→
  ∃ xs:List AV,xs.length=l.length∧(∃ rg',K rg' σ∧∀ i,lk rg' i=lk (puts l xs rg0) i)∧∀ i (h:i<l.length) (h':i<xs.length),QV P cfg l[i] (puts (l.take i) (xs.take i) rg0) σ xs[i]:=vcM_chain
end
section
variable {P:Program}[Glob P]{N:Nat}{cfg:Nat→Nat}{Q:Exit→Regs→Store→Prop}{rg:Regs}{σ:Store}{k:List Fr}{xr:XR}
def splitD(d:Nat):List CI→Option (List CI×CI×List CI)
 |[]=>none
 |c::l=>bif (match c.d with|some e=>Nat.beq e d|none=>false)then some ([],c,l)else match splitD d l with
  |some (a,s,b)=>some (c::a,s,b)
  |none=>none
theorem splitD_eq{d:Nat}:∀ {l a b:List CI} {s:CI},splitD d l=some (a,s,b)→l=a++s::b
 |[],_,_,_,h=>by cases h
 |c::l,a,b,s,h=>by
  simp only[splitD]at h
  generalize (match c.d with|some e=>Nat.beq e d|none=>false)=q at h
  cases q with
  |true=>cases h;rfl
  |false=>
   simp only[cond_false]at h
   cases h2:splitD d l with
   |none=>rw[h2]at h;cases h
   |some p=>obtain⟨a',s',b'⟩:=p;rw[h2]at h;cases h;rw[splitD_eq h2];rfl
def cls4:List CI→Option (List CI×CI×List CI)
 |[]=>none
 |c::l=>bif Nat.beq c.op.cls 4 then some ([],c,l)else match cls4 l with
  |some (a,s,b)=>some (c::a,s,b)
  |none=>none
theorem cls4_eq:∀ {l a b:List CI} {s:CI},cls4 l=some (a,s,b)→l=a++s::b∧s.op.cls=4
 |[],_,_,_,h=>by cases h
 |c::l,a,b,s,h=>by
  simp only[cls4]at h
  cases q:Nat.beq c.op.cls 4 with
  |true=>rw[q]at h;cases h;exact⟨rfl,Nat.eq_of_beq_eq_true q⟩
  |false=>
   rw[q]at h
   simp only[cond_false]at h
   cases h2:cls4 l with
   |none=>rw[h2]at h;cases h
   |some p=>
    obtain⟨a',s',b'⟩:=p
    rw[h2]at h
    cases h
    obtain⟨e,e2⟩:=cls4_eq h2
    exact⟨by rw[e];rfl,e2⟩
theorem vcO4_mono{P:Program}[Glob P]{cfg:Nat→Nat}{d:Option Nat}{rg:Regs}{σ:Store}{K K':AV→Store→Prop}{E E':List PanicEntry→Store→Prop}{op:IOp}(h4:op.cls=4)(hk:∀ x σ',K x σ'→K' x σ')(h:vcO P cfg d rg σ K E op):vcO P cfg d rg σ K' E' op:=by
 cases op<;>simp only[IOp.cls,reduceCtorEq,Nat.reduceEqDiff,Nat.zero_ne_add_one]at h4
 ·simp only[vcO]at h ⊢
  split at h
  ·exact⟨h.1,fun e=>hk _ _ (h.2.1 e),fun e b u c hu=>hk _ _ (h.2.2 e b u c hu)⟩
  ·exact⟨h.1,h.2.1,h.2.2.1,h.2.2.2.1,fun b u c hu=>hk _ _ (h.2.2.2.2 b u c hu)⟩
  ·exact⟨h.1,h.2.1,fun e=>hk _ _ (h.2.2.1 e),fun e b u c=>hk _ _ (h.2.2.2 e b u c)⟩
  ·exact h.elim
 ·exact OpS.mono h hk
def MidK(P:Program)[Glob P](cfg:Nat→Nat)(l2:List CI)(K:Regs→Store→Prop)(rg:Regs)(σ:Store):Prop:=vcM P cfg [] (bare l2) (Cl K) rg σ
def MidO(P:Program)[Glob P](cfg:Nat→Nat)(K:Regs→Store→Prop)(s:CI)(l2:List CI)(rg:Regs)(σ:Store):Prop:=vcX P cfg [s] (MidK P cfg l2 K) (fun _ _=>False) rg σ
theorem SW_dregO{P:Program}[Glob P]{N:Nat}{l1 l2:List CI}{s:CI}{Q:Exit→Regs→Store→Prop}{rg:Regs}{σ:Store}(cfg:Nat→Nat)(h4:s.op.cls=4)(hsp:spOK (l1++s::l2) l1.length=true)(hsg:s.g=none)
  (h:vcM P cfg [] (bare l1) (MidO P cfg (Q .normal) s l2) rg σ):SW P N (.dreg (l1++s::l2)) Q rg σ:=by
 refine SW_cl (SW_chainS cfg (.inl h4) hsp hsg fun hc=> ?_)
 have hcl1:=vcM_cls l1 rg (fun c h=>hc c (by simp[h])) h
 obtain⟨xs,h1,⟨rg1,hM,h3⟩,h4'⟩:=vcM_chainK l1 rg rg (fun _=>rfl) (fun c h=>hc c (by simp[h])) h
 refine⟨xs,h1,h4',?_,hcl1⟩
 rw[← vcO_local (rg:=rg1) (fun t _=>h3 t)]
 simp only[MidO,vcX,vcG,hsg]at hM
 refine vcO4_mono h4 (fun x σ' hx=> ?_) hM
 exact vcM_chain l2 _ _ (lk_put_congr h3 s.d x) (fun c h=>hc c (by simp[h])) hx
theorem WK_dregO{l l1 l2:List CI}{s:CI}(hl:cls4 l=some (l1,s,l2))(hsp:spOK l l1.length=true)(hsg:s.g=none)(hx:toXO rg=some xr)
  (h:VY P cfg [] (bare l1) (MidO P cfg (FK P N cfg Q .normal k) s l2) xr σ):WK P N cfg Q (.dreg l) k rg σ:=by
 obtain⟨e,h4⟩:=cls4_eq hl
 subst e
 refine⟨WA.mono (Q:=fun e=>FK P N cfg Q e k) ⟨rfl,SW_dregO cfg h4 hsp hsg ?_⟩ fun _ _ _ h=>h.h⟩
 have:=h.h
 rw[← toXO_eq hx,den_toX]at this
 exact this
theorem VY_midO{K:Regs→Store→Prop}{s:CI}{l2:List CI}(h:VX P cfg [s] (MidK P cfg l2 K) (fun _ _=>False) xr σ):VY P cfg [] [] (MidO P cfg K s l2) xr σ:=⟨h.h⟩
theorem VX_nilY{K:Regs→Store→Prop}{E:List PanicEntry→Store→Prop}{l2:List CI}(h:VY P cfg [] (bare l2) (Cl K) xr σ):VX P cfg [] (MidK P cfg l2 K) E xr σ:=⟨h.h⟩
end
end Go.Sx
