/-
  The layer Sx, fifteenth part: the region whose order is open, with new variables and stores.
-/
import Derived.Test.YtbihckigennlhaaGreatDoorSxMix2
set_option linter.unusedVariables false
set_option linter.unusedSimpArgs false
set_option linter.unusedSectionVars false
namespace Go.Sx
open Go.RowKit
def Cl(K:Regs→Store→Prop)(rg:Regs)(σ:Store):Prop:=∃ rg' σ',(∀ i,lk rg' i=lk rg i)∧StEq σ' σ∧K rg' σ'
theorem Cl.intro{K:Regs→Store→Prop}{rg:Regs}{σ:Store}(h:K rg σ):Cl K rg σ:=⟨rg,σ,fun _=>rfl,StEq.refl _,h⟩
theorem Cl.closed(K:Regs→Store→Prop):Closed (Cl K):=fun _ _ _ _ hr hs ⟨rg',σ',h1,h2,h3⟩=>⟨rg',σ',fun i=>(h1 i).trans (hr i),h2.trans hs,h3⟩
def Pair(ops:Array Oper)(als:List Nat)(a c:CD):Prop:=hasE ops a.ix c.ix=false∧(hasE ops c.ix a.ix=true∨commD als a c=true∨hasR ops 2 c.ix a.ix=true)
theorem pairOK_pw{ops:Array Oper}{als:List Nat}:∀ (l:List CD),pairOK ops als l=true→l.Pairwise (Pair ops als)
 |[],_=> .nil
 |a::l,h=>by
  simp only[pairOK,Bool.and_eq_true,List.all_eq_true,Bool.or_eq_true,Bool.not_eq_true']at h
  exact .cons (fun c hc=>⟨(h.1.2 c hc).1,by
   rcases(h.1.2 c hc).2 with(k|k)|k
   ·exact .inl k
   ·exact .inr (.inl k)
   ·exact .inr (.inr k.2)⟩) (pairOK_pw l h.2)
theorem hasR_done{ops:Array Oper}{p:Nat→Bool}(hd:∀ i,p i=true→∀ j,hasE ops i j=true→p j=true):∀ (n i j:Nat),(∀ b,hasE ops i b=true→p b=true)→hasR ops n i j=true→p j=true
 |0,i,j,hi,h=>hi j h
 |n+1,i,j,hi,h=>by
  rw[hasR,Bool.or_eq_true]at h
  rcases h with h|h
  ·exact hi j h
  ·obtain⟨b,_,hb⟩:=List.any_eq_true.1 h
   rw[Bool.and_eq_true]at hb
   exact hasR_done hd n b j (fun c hc=>hd b (hi b hb.1) c hc) hb.2
theorem pairOK_self{ops:Array Oper}{als:List Nat}:∀ (l:List CD),pairOK ops als l=true→∀ x∈l,hasE ops x.ix x.ix=false
 |[],_,x,hx=>by cases hx
 |a::l,h,x,hx=>by
  simp only[pairOK,Bool.and_eq_true,Bool.not_eq_true']at h
  rcases List.mem_cons.1 hx with rfl|hx
  ·exact h.1.1
  ·exact pairOK_self l h.2 x hx
section
variable {P:Program}[Glob P]{M:Mem}{w0:Base}{σ:Store}{rg:Regs}{cfg:Nat→Nat}{N:Nat}{als:List Nat}
theorem vcM_mono{K K':Regs→Store→Prop}(hk:∀ rg σ,K rg σ→K' rg σ):∀ (l:List CD) (rg:Regs) (σ:Store),(∀ x∈l,oneOK x=true)→vcM P cfg als l K rg σ→vcM P cfg als l K' rg σ
 |[],rg,σ,_,h=>hk _ _ h
 |c::l,rg,σ,ho,h=>vcGD_step (ho c (by simp)) h fun y σ2 _ hv=>vcM_mono hk l _ σ2 (fun x hx=>ho x (by simp[hx])) hv
theorem SW_mregG{l:List CD}{Q:Exit→Regs→Store→Prop}(cfg:Nat→Nat)(Ψ:List CD→Regs→Store→Prop)(h0:(∀ x∈l,oneOK x=true)→Ψ l rg σ)(hend:∀ rg σ,Ψ [] rg σ→Cl (Q .normal) rg σ)
  (hstep:∀ (A:List CD) (x:CD) (B:List CD) (rg:Regs) (σ:Store),(∀ a∈A++x::B,oneOK a=true)→(∀ a∈A,commD als a x=true)→Ψ (A++x::B) rg σ→
   ∃ rg' σ',(∀ i,lk rg' i=lk rg i)∧StEq σ' σ∧vcG P cfg x.c (fun y σ2=>Ψ (A++B) (putR x.c.d y rg) σ2) (fun ch σ'=>Q (.panic ch) [] σ') rg' σ'):SW P N (.mreg als l) Q rg σ:=by
 intro c hc M w0 a w hI hR hN hD
 obtain⟨id,ops,cl,rfl,hcl,hget,hok,hfol⟩:=compC_inv hc
 obtain⟨hlen,hcomp⟩:=compL_get ops.toList cl hcl
 unfold mixOK at hok
 simp only[Bool.and_eq_true,decide_eq_true_eq]at hok
 obtain⟨⟨⟨⟨⟨hnd,hll⟩,hcov⟩,hone⟩,hbnd⟩,hpair⟩:=hok
 have hself:=pairOK_self l hpair
 have hll:=Nat.le_of_ble_eq_true hll
 have hone':∀ x∈l,oneOK x=true:=List.all_eq_true.1 hone
 have hpw:=pairOK_pw l hpair
 have hlt:∀ x∈l,x.ix<ops.size:=fun x hx=>by
  have:=(List.getElem?_eq_some_iff.1 (hget x hx)).1
  rw[hlen]at this
  simpa using this
 have h':=h0 hone'
 refine cwp_any hfol ?_
 have main:∀ (fuel:Nat) (L:List CD) (listed:Array Bool) (a:Act) (w:World),listed.size=ops.size→L.length≤fuel→L.Sublist l→
   (∀ i,i<ops.size→(listed.getD i true=false↔∃ x∈L,x.ix=i))→(∀ i,listed.getD i false=true→∀ j,hasE ops i j=true→listed.getD j false=true)→
   (∃ M2 rg2 σ2,M.le M2∧Inv P M2 w0 σ2 w∧RegsOK M2 rg2 a∧a.tmps.size=N∧a.defers=Glob.df P∧Ψ L rg2 σ2)→
   wpAny P .any ops (conc P M w0 N Q) fuel listed a w:=by
  have fin:∀ (a:Act) (w:World),(∃ M2 rg2 σ2,M.le M2∧Inv P M2 w0 σ2 w∧RegsOK M2 rg2 a∧a.tmps.size=N∧a.defers=Glob.df P∧Ψ [] rg2 σ2)→conc P M w0 N Q .normal a w:=by
   rintro a w ⟨M2,rg2,σ2,g1,g2,g3,g4,g5,g6⟩
   obtain⟨rg3,σ3,k1,k2,k3⟩:=hend _ _ g6
   exact⟨M2,rg3,σ3,g1,g2.perm k2.2.symm,fun i=>by rw[k1];exact g3 i,g4,g5,k3⟩
  intro fuel
  induction fuel with
  |zero=>
   intro L listed a w hsz hcnt hsub hL hdn hst
   obtain rfl:L=[]:=List.length_eq_zero_iff.1 (by omega)
   refine⟨?_,fin a w hst⟩
   unfold Region.ready
   rw[List.filter_eq_nil_iff]
   intro i hi
   have hi':i<ops.size:=by simpa using hi
   have:listed.getD i true=true:=by
    cases hli:listed.getD i true with
    |true=>rfl
    |false=>obtain⟨x,hx,_⟩:=(hL i hi').1 hli;cases hx
   simp[this]
  |succ fuel ih=>
   intro L listed a w hsz hcnt hsub hL hdn hst
   have hbool:∀ i,i<ops.size→listed.getD i false=listed.getD i true:=fun i hi=>by
    rw[Array.getD_eq_getD_getElem?,Array.getD_eq_getD_getElem?,Array.getElem?_eq_getElem (by omega)];rfl
   refine⟨fun hr=> ?_,fun i hi=> ?_⟩
   ·cases L with
    |nil=>exact fin a w hst
    |cons x L=>
     exfalso
     have hx:=hsub.subset (List.mem_cons_self)
     have hxl:=hlt x hx
     have hpwL:=hpw.sublist hsub
     have:x.ix∈Region.ready .any ops listed:=by
      unfold Region.ready
      rw[List.mem_filter]
      refine⟨by simpa using hxl,?_⟩
      have hli:listed.getD x.ix true=false:=(hL x.ix hxl).2 ⟨x,by simp,rfl⟩
      simp only[hli,Bool.not_false,Bool.true_and,Array.getElem?_eq_getElem hxl,Option.map_some,Option.getD_some]
      rw[Array.all_eq_true_iff_forall_mem]
      intro e he
      cases hbe:Region.binds .any e with
      |false=>rfl
      |true=>
       have hon:e.on<ops.size:=by
        have h1:=Array.all_eq_true_iff_forall_mem.1 hbnd _ (Array.getElem_mem hxl)
        have h2:=Array.all_eq_true_iff_forall_mem.1 h1 e he
        simpa[hbe]using h2
       have:listed.getD e.on true=true:=by
        cases hle:listed.getD e.on true with
        |true=>rfl
        |false=>
         exfalso
         obtain⟨y,hy,hyi⟩:=(hL e.on hon).1 hle
         have hE:hasE ops x.ix y.ix=true:=by
          unfold hasE
          rw[Array.getElem?_eq_getElem hxl]
          simp only[Array.any_eq_true]
          obtain⟨m,hm,hme⟩:=Array.mem_iff_getElem.1 he
          exact⟨m,hm,by rw[hme,hbe,hyi];simp⟩
         rcases List.mem_cons.1 hy with rfl|hy
         ·
          have:=(hself y hx)
          rw[this]at hE;cases hE
         ·have:=(List.rel_of_pairwise_cons hpwL hy).1
          rw[this]at hE;cases hE
       simp[hbool e.on hon,this]
     rw[hr]at this
     cases this
   ·unfold Region.ready at hi
    rw[List.mem_filter]at hi
    obtain⟨hi1,hi2⟩:=hi
    have hio:i<ops.size:=by simpa using hi1
    simp only[Bool.and_eq_true,Bool.not_eq_true',Array.getElem?_eq_getElem hio,Option.map_some,Option.getD_some]at hi2
    obtain⟨hnl,hdeps⟩:=hi2
    obtain⟨x,hxL,rfl⟩:=(hL i hio).1 hnl
    obtain⟨A,B,rfl⟩:=List.append_of_mem hxL
    have hx:=hsub.subset hxL
    obtain⟨M2,rg2,σ2,g1,g2,g3,g4,g5,g6⟩:=hst
    have hpwL:=hpw.sublist hsub
    have hrdy:∀ b,hasE ops x.ix b=true→listed.getD b false=true:=fun b hb=>by
     unfold hasE at hb
     rw[Array.getElem?_eq_getElem hio]at hb
     simp only[Array.any_eq_true,Bool.and_eq_true,beq_iff_eq]at hb
     obtain⟨m,hm,hbm,hon⟩:=hb
     have:=Array.all_eq_true_iff_forall_mem.1 hdeps _ (Array.getElem_mem hm)
     rw[hbm,hon]at this
     simpa using this
    have hA:∀ a∈A,commD als a x=true∧oneOK a=true:=by
     intro b hb
     refine⟨?_,hone' b (hsub.subset (by simp[hb]))⟩
     have hp:=(List.pairwise_append.1 hpwL).2.2 b hb x (by simp)
     rcases hp.2 with hE|hc|hR
     rotate_left 2
     ·exfalso
      have:=hasR_done (p:=fun i=>listed.getD i false) hdn 2 x.ix b.ix hrdy hR
      have hbl:=hlt b (hsub.subset (by simp[hb]))
      try simp only at this
      rw[hbool _ hbl,(hL b.ix hbl).2 ⟨b,by simp[hb],rfl⟩]at this
      cases this
     ·exfalso
      unfold hasE at hE
      rw[Array.getElem?_eq_getElem hio]at hE
      simp only[Array.any_eq_true,Bool.and_eq_true,beq_iff_eq]at hE
      obtain⟨m,hm,hbm,hon⟩:=hE
      have:=Array.all_eq_true_iff_forall_mem.1 hdeps _ (Array.getElem_mem hm)
      rw[hbm,hon]at this
      have hbl:=hlt b (hsub.subset (by simp[hb]))
      rw[hbool _ hbl,(hL b.ix hbl).2 ⟨b,by simp[hb],rfl⟩]at this
      simp at this
     ·exact hc
    obtain⟨rgq,σq,eq1,eq2,hq⟩:=hstep A x B rg2 σ2 (fun b hb=>hone' b (hsub.subset hb)) (fun b hb=>(hA b hb).1) g6
    have hci:compI P N ops ops[x.ix]=some x.c:=by
     have hcl':x.ix<cl.length:=by rw[hlen];simpa using hio
     have:=hcomp x.ix (by simpa using hio) hcl'
     have e:=hget x hx
     rw[List.getElem?_eq_getElem hcl']at e
     have e:=Option.some.inj e
     rw[← e]
     simpa using this
    obtain⟨hdst,hltN⟩:=compI_lt hci
    unfold wpOp
    simp only[Array.getElem?_eq_getElem hio]
    refine guard_sound hci hq (g2.perm eq2.2.symm) (fun i=>by rw[eq1];exact g3 i) ⟨?_,fun M3 ch σ3 w' hM hI' hk=>⟨M3,[],σ3,g1.trans hM,hI',fun i=> .any _,g4,g5,hk⟩⟩
    rintro M3 y σ3 v w' hM hI' hy hv
    have hnd':((A++x::B).map (·.ix)).Nodup:=hnd.sublist (hsub.map _)
    refine ih (A++B) _ _ _ (by simp[hsz]) (by simp at hcnt ⊢;omega) (List.Sublist.trans (List.Sublist.append (List.Sublist.refl A) (List.sublist_cons_self x B)) hsub) (fun j hj=> ?_) (fun i hi j hij=> ?_)
     ⟨M3,_,σ3,g1.trans hM,hI',by rw[hdst];exact(g3.mono hM).put _ (fun t ht=>by rw[g4];exact hltN t (hdst.trans ht)) hy,by rw[Act.size_put];exact g4,by rw[Act.defers_put];exact g5,hv⟩
    rotate_left
    ·have hmono:∀ k,listed.getD k false=true→(listed.setIfInBounds x.ix true).getD k false=true:=fun k hk=>by
      rw[Array.getD_eq_getD_getElem?]at hk ⊢
      rw[Array.getElem?_setIfInBounds]
      split
      ·rename_i e;subst e;simp[hsz,hio]
      ·exact hk
     by_cases hxi:x.ix=i
     ·subst hxi;exact hmono j (hrdy j hij)
     ·refine hmono j (hdn i ?_ j hij)
      rw[Array.getD_eq_getD_getElem?,Array.getElem?_setIfInBounds,if_neg hxi]at hi
      rw[Array.getD_eq_getD_getElem?];exact hi
    have hnx:∀ z∈A++B,z.ix≠x.ix:=by
     intro z hz e
     have hp:((x::(A++B)).map (·.ix)).Nodup:=(((List.perm_middle (a:=x) (l₁:=A) (l₂:=B)).map (·.ix)).nodup_iff).1 hnd'
     rw[List.map_cons,List.nodup_cons]at hp
     exact hp.1 (by rw[← e];exact List.mem_map_of_mem hz)
    by_cases hji:x.ix=j
    ·subst hji
     have e:(listed.setIfInBounds x.ix true).getD x.ix true=true:=by
      rw[Array.getD_eq_getD_getElem?,Array.getElem?_setIfInBounds];simp[hsz,hio]
     rw[e]
     exact⟨fun h=>(nomatch h),fun⟨z,hz,e⟩=>absurd e (hnx z hz)⟩
    ·have e:(listed.setIfInBounds x.ix true).getD j true=listed.getD j true:=by
      rw[Array.getD_eq_getD_getElem?,Array.getElem?_setIfInBounds,if_neg hji,Array.getD_eq_getD_getElem?]
     rw[e,hL j hj]
     constructor
     ·rintro⟨z,hz,rfl⟩
      refine⟨z,?_,rfl⟩
      rcases List.mem_append.1 hz with hz|hz
      ·exact List.mem_append_left _ hz
      ·rcases List.mem_cons.1 hz with rfl|hz
       ·exact absurd rfl hji
       ·exact List.mem_append_right _ hz
     ·rintro⟨z,hz,rfl⟩
      refine⟨z,?_,rfl⟩
      rcases List.mem_append.1 hz with hz|hz
      ·exact List.mem_append_left _ hz
      ·exact List.mem_append_right _ (List.mem_cons_of_mem _ hz)
 have hcov':∀ i,i<ops.size→∃ x∈l,x.ix=i:=fun i hi=>by
  have:=List.all_eq_true.1 hcov i (by simpa using hi)
  obtain⟨x,hx,e⟩:=List.any_eq_true.1 this
  exact⟨x,hx,Nat.eq_of_beq_eq_true e⟩
 refine main ops.size l _ a _ (by simp) hll (List.Sublist.refl _) (fun i hi=> ?_) (fun i hi=> ?_) ⟨M,rg,σ,Mem.le.refl _,hI.drew',hR,hN,hD,h'⟩
 rotate_left
 ·exfalso
  rw[Array.getD_eq_getD_getElem?,Array.getElem?_replicate]at hi
  split at hi<;>cases hi
 have e:(Array.replicate ops.size false).getD i true=false:=by simp[hi]
 exact⟨fun _=>hcov' i hi,fun _=>e⟩
theorem SW_mreg{l:List CD}{Q:Exit→Regs→Store→Prop}(cfg:Nat→Nat)(h:vcM P cfg als l (Q .normal) rg σ):SW P N (.mreg als l) Q rg σ:=
 SW_mregG cfg (fun L rg σ=>vcM P cfg als L (Cl (Q .normal)) rg σ) (fun ho=>vcM_mono (fun _ _=>Cl.intro) l rg σ ho h) (fun _ _ h=>h)
  fun A x B rg σ ho hA hv=>⟨rg,σ,fun _=>rfl,StEq.refl _,vcGD_G (ho x (by simp)) (frontD (Cl.closed _) (ho x (by simp)) A B rg σ (fun a ha=>⟨hA a ha,ho a (by simp[ha])⟩) (fun b hb=>ho b (by simp[hb])) hv)⟩
theorem SW_cl{s:SC}{Q:Exit→Regs→Store→Prop}(h:SW P N s (fun e=>Cl (Q e)) rg σ):SW P N s Q rg σ:=
 fun c hc M w0 a w hI hR hN hD=>cwp_mono (h c hc M w0 a w hI hR hN hD) fun _ _ _ ⟨M2,rg2,σ2,h1,h2,h3,h4,h5,rg3,σ3,k1,k2,k3⟩=>
  ⟨M2,rg3,σ3,h1,h2.perm k2.2.symm,fun i=>by rw[k1];exact h3 i,h4,h5,k3⟩
def bare(l:List CI):List CD:=l.map fun c=>⟨0,c,[]⟩
theorem vcM_chain{K:Regs→Store→Prop}:∀ (l:List CI) (rg rg0:Regs),(∀ i,lk rg i=lk rg0 i)→(∀ c∈l,c.op.cls≤1∨(c.op.cls=4∧c.g=none))→vcM P cfg [] (bare l) K rg σ→
  Chain P cfg (fun rg'=>K rg' σ) l rg0 σ
 |[],rg,rg0,he,_,h=>⟨[],rfl,⟨rg,h,he⟩,fun i h=>absurd h (by simp)⟩
 |c::l,rg,rg0,he,hc,h=>by
  have h1:c.op.cls≤1:=by
   rcases hc c (by simp)with h1|⟨h1,h2⟩
   ·exact h1
   ·exfalso
    have h:vcGD P cfg [] ⟨0,c,[]⟩ (fun x σ'=>vcM P cfg [] (bare l) K (putR c.d x rg) σ') rg σ:=h
    unfold vcGD vcOD at h
    simp only[h1,h2]at h
    have:=h.1
    simp at this
  have ho:oneOK ⟨0,c,[]⟩=true:=by
   unfold oneOK
   have h2:Nat.ble c.op.cls 1=true:=Nat.ble_eq_true_of_le h1
   have h3:(Nat.ble c.op.cls 3 || isApp c.op)=true:=by rw[Nat.ble_eq_true_of_le (by omega)];rfl
   have h4:Nat.beq c.op.cls 2=false:=by rw[← Bool.not_eq_true,Nat.beq_eq];omega
   simp only[h2,h3,h4];rfl
  obtain⟨x,hx,hv⟩:=det (c:=⟨0,c,[]⟩) h1 h
  have hq:QV P cfg c rg σ x:=vcGD_G (c:=⟨0,c,[]⟩) (E:=fun _ _=>False) ho (hv σ (fun _ _ _ _ _ _ h=>h) (fun y s=>y=x∧s=σ) ⟨rfl,rfl⟩)
  obtain⟨xs,g1,g2,g3⟩:=vcM_chain l _ (putR c.d x rg0) (lk_put_congr he c.d x) (fun c' h'=>hc c' (by simp[h'])) hx
  refine⟨x::xs,by simp[g1],g2,fun i hi hi'=> ?_⟩
  cases i with
  |zero=>exact QV_local (fun t _=>he t) hq
  |succ i=>simpa[puts]using g3 i (by simpa using hi) (by simpa using hi')
theorem vcM_cls{K:Regs→Store→Prop}:∀ (l:List CI) (rg:Regs),(∀ c∈l,c.op.cls≤1∨(c.op.cls=4∧c.g=none))→vcM P cfg [] (bare l) K rg σ→∀ c∈l,c.op.cls≤1
 |[],_,_,_=>fun _ h=>by cases h
 |c::l,rg,hc,h=>by
  have h1:c.op.cls≤1:=by
   rcases hc c (by simp)with h1|⟨h1,h2⟩
   ·exact h1
   ·exfalso
    have h:vcGD P cfg [] ⟨0,c,[]⟩ (fun x σ'=>vcM P cfg [] (bare l) K (putR c.d x rg) σ') rg σ:=h
    unfold vcGD vcOD at h
    simp only[h1,h2]at h
    have:=h.1
    simp at this
  obtain⟨x,hx,_⟩:=det (c:=⟨0,c,[]⟩) h1 h
  intro c' hc'
  rcases List.mem_cons.1 hc' with rfl|hc'
  ·exact h1
  ·exact vcM_cls l _ (fun c h=>hc c (by simp[h])) hx c' hc'
theorem SW_dregM{l:List CI}{Q:Exit→Regs→Store→Prop}(cfg:Nat→Nat)(h:vcM P cfg [] (bare l) (Cl (Q .normal)) rg σ):SW P N (.dreg l) Q rg σ:=
 SW_cl (SW_chain cfg fun hc=>⟨vcM_chain (K:=Cl (Q .normal)) l rg rg (fun _=>rfl) hc h,vcM_cls l rg hc h⟩)
theorem SW_mregM{l:List CD}{Q:Exit→Regs→Store→Prop}(cfg:Nat→Nat)(h:vcM P cfg als l (Cl (Q .normal)) rg σ):SW P N (.mreg als l) Q rg σ:=
 SW_cl (SW_mreg (Q:=fun e=>Cl (Q e)) cfg h)
end
inductive AC where
 |skip
 |reg (l:List CI)
 |dreg (l:List CI)
 |mreg (als:List Nat) (l:List CD)
 |seq (a b:AC)
 |cond (c:Operand) (t e:AC)
 |block (id:Nat) (b:AC)
 |loop (b:AC)
 |exit (id:Nat)
 |ret
 |scope (b:AC)
 |label (l:Nat)
 |goto (l:Nat)
 |keep (ks:List Nat) (a:AC)
 |stop (a:AC)
def AC.erase:AC→SC
 | .skip=> .skip
 | .reg l=> .reg l
 | .dreg l=> .dreg l
 | .mreg als l=> .mreg als l
 | .seq a b=> .seq a.erase b.erase
 | .cond c t e=> .cond c t.erase e.erase
 | .block id b=> .block id b.erase
 | .loop b=> .loop b.erase
 | .exit id=> .exit id
 | .ret=> .ret
 | .scope b=> .scope b.erase
 | .label l=> .label l
 | .goto l=> .goto l
 | .keep _ a=>a.erase
 | .stop a=>a.erase
def Stop(P:Program)[Glob P](N:Nat)(a:AC)(Q:Exit→Regs→Store→Prop)(rg:Regs)(σ:Store):Prop:=SW P N a.erase Q rg σ
def vcA(P:Program)[Glob P](N:Nat)(cfg:Nat→Nat):AC→(Exit→Regs→Store→Prop)→Regs→Store→Prop
 | .skip,Q,rg,σ=>Q .normal rg σ
 | .reg l,Q,rg,σ=>vcL P cfg l (Q .normal) (fun ch σ'=>Q (.panic ch) [] σ') rg σ
 | .dreg l,Q,rg,σ=>vcQ P cfg l (fun rg'=>Q .normal rg' σ) rg σ
 | .mreg als l,Q,rg,σ=>vcM P cfg als l (Q .normal) rg σ
 | .seq a b,Q,rg,σ=>vcA P N cfg a (thenQ (vcA P N cfg b Q) Q) rg σ
 | .cond c t e,Q,rg,σ=>match ev rg c with
  | .v (.bool b)=>Gd b true (vcA P N cfg t Q rg σ) (vcA P N cfg e Q rg σ)
  |_=>False
 | .block id b,Q,rg,σ=>vcA P N cfg b (blockQ id Q) rg σ
 | .loop b,Q,rg,σ=>Stop P N (.loop b) Q rg σ
 | .exit id,Q,rg,σ=>Q (.exit id) rg σ
 | .ret,Q,rg,σ=>Q .ret rg σ
 | .scope b,Q,rg,σ=>Stop P N (.scope b) Q rg σ
 | .label l,Q,rg,σ=>Q .normal rg σ
 | .goto l,Q,rg,σ=>Q (.goto l) rg σ
 | .keep ks a,Q,rg,σ=>vcA P N cfg a Q (filt ks rg) σ
 | .stop a,Q,rg,σ=>Stop P N a Q rg σ
theorem vcA_sound{P:Program}[Glob P]{N:Nat}(cfg:Nat→Nat):∀ (a:AC) (Q:Exit→Regs→Store→Prop) (rg:Regs) (σ:Store),vcA P N cfg a Q rg σ→SW P N a.erase Q rg σ
 | .skip,Q,rg,σ,h=>SW_skip h
 | .reg l,Q,rg,σ,h=>SW_reg cfg h
 | .dreg l,Q,rg,σ,h=>SW_dreg cfg h
 | .mreg als l,Q,rg,σ,h=>SW_mreg cfg h
 | .seq a b,Q,rg,σ,h=>SW_seq ((vcA_sound cfg a _ rg σ h).mono fun e rg' σ' he=>by
   cases e with
   |normal=>exact vcA_sound cfg b Q rg' σ' he
   |_=>exact he)
 | .cond c t e,Q,rg,σ,h=>by
  simp only[vcA]at h
  split at h
  ·rename_i b hb
   exact SW_cond hb (fun hb=>vcA_sound cfg t Q rg σ (h.l hb)) (fun hb=>vcA_sound cfg e Q rg σ (h.r hb))
  ·exact h.elim
 | .block id b,Q,rg,σ,h=>SW_block (vcA_sound cfg b _ rg σ h)
 | .loop b,Q,rg,σ,h=>h
 | .exit id,Q,rg,σ,h=>SW_exit h
 | .ret,Q,rg,σ,h=>SW_ret h
 | .scope b,Q,rg,σ,h=>h
 | .label l,Q,rg,σ,h=>SW_label h
 | .goto l,Q,rg,σ,h=>SW_goto h
 | .keep ks a,Q,rg,σ,h=>SW.filt ks (vcA_sound cfg a Q _ σ h)
 | .stop a,Q,rg,σ,h=>h
theorem Stop.run{P:Program}[Glob P]{N:Nat}(cfg:Nat→Nat){a:AC}{Q:Exit→Regs→Store→Prop}{rg:Regs}{σ:Store}(h:vcA P N cfg a Q rg σ):Stop P N a Q rg σ:=vcA_sound cfg a Q rg σ h
theorem Stop.loop{P:Program}[Glob P]{N:Nat}{b:AC}{Q:Exit→Regs→Store→Prop}{rg:Regs}{σ:Store}(cfg:Nat→Nat)(I:Nat→Regs→Store→Prop)(n:Nat)(h0:I n rg σ)
  (h:∀ n rg σ,I n rg σ→vcA P N cfg b (thenQ (fun rg' σ'=>∃ n',n'<n∧I n' rg' σ') Q) rg σ):Stop P N (.loop b) Q rg σ:=
 SW_loop I n h0 fun n rg σ hi=>vcA_sound cfg b _ rg σ (h n rg σ hi)
theorem Stop.mono{P:Program}[Glob P]{N:Nat}{a:AC}{Q Q':Exit→Regs→Store→Prop}{rg:Regs}{σ:Store}(h:Stop P N a Q rg σ)(hq:∀ e rg σ,Q e rg σ→Q' e rg σ):Stop P N a Q' rg σ:=SW.mono h hq
theorem stop_congr{P:Program}[Glob P]{N:Nat}{a:AC}{Q:Exit→Regs→Store→Prop}{rg rg':Regs}{σ σ':Store}(h:rg=rg')(k:σ=σ'):Stop P N a Q rg σ=Stop P N a Q rg' σ':=by rw[h,k]
attribute [congr] stop_congr
attribute [congr] callP_congr
attribute [congr] qcall_congr
structure WA(P:Program)[Glob P](N:Nat)(cfg:Nat→Nat)(a:AC)(Q:Exit→Regs→Store→Prop)(rg:Regs)(σ:Store):Prop where
 c:cfg=cfg
 h:SW P N a.erase Q rg σ
def filtO:List Nat→Regs→Option Regs
 |[],_=>some []
 |k::ks,rg=>fo (lk rg k) fun x=>match filtO ks rg with
  |some l=>some ((k,x)::l)
  |none=>none
theorem filtO_eq:∀ {ks:List Nat} {rg l:Regs},filtO ks rg=some l→filt ks rg=l
 |[],_,_,h=>by cases h;rfl
 |k::ks,rg,l,h=>by
  have h:=fo_eq h
  split at h
  ·rename_i l' h';cases h;simp only[filt,filtO_eq h']
  ·cases h
def evsO(rg:Regs):List Operand→Option (List AV)
 |[]=>some []
 |x::l=>fo (ev rg x) fun v=>match evsO rg l with
  |some vs=>some (v::vs)
  |none=>none
theorem evsO_eq{rg:Regs}:∀ {l:List Operand} {vs:List AV},evsO rg l=some vs→evs rg l=vs
 |[],_,h=>by cases h;rfl
 |x::l,vs,h=>by
  have h:=fo_eq h
  split at h
  ·rename_i l' h';cases h;simp only[evs,evsO_eq h']
  ·cases h
def boolO(rg:Regs)(x:Operand):Option Bool:=match ev rg x with
 | .v (.bool b)=>some b
 |_=>none
theorem boolO_eq{rg:Regs}{x:Operand}{b:Bool}(h:boolO rg x=some b):ev rg x= .v (.bool b):=by
 unfold boolO at h
 split at h
 ·rename_i e;cases h;exact e
 ·cases h
section
variable {P:Program}[Glob P]{N:Nat}{cfg:Nat→Nat}{Q:Exit→Regs→Store→Prop}{K:Regs→Store→Prop}{E:List PanicEntry→Store→Prop}{rg rg':Regs}{σ σ':Store}{l:List CI}{d:Option Nat}{op:IOp}{p:Prop}{v:AV}
theorem WA_seq{a b:AC}(h:WA P N cfg a (thenQ (fun rg σ=>WA P N cfg b Q rg σ) Q) rg σ):WA P N cfg (.seq a b) Q rg σ:=
 ⟨rfl,SW_seq (h.h.mono fun e rg' σ' he=>by
  cases e with
  |normal=>exact he.h
  |_=>exact he)⟩
theorem WA_skip(h:Q .normal rg σ):WA P N cfg .skip Q rg σ:=⟨rfl,SW_skip h⟩
theorem WA_ret(h:Q .ret rg σ):WA P N cfg .ret Q rg σ:=⟨rfl,SW_ret h⟩
theorem WA_exit{id:Nat}(h:Q (.exit id) rg σ):WA P N cfg (.exit id) Q rg σ:=⟨rfl,SW_exit h⟩
theorem WA_cond{x:Operand}{a b:AC}{c:Bool}(hx:boolO rg x=some c)(h1:c=true→WA P N cfg a Q rg σ)(h2:c=false→WA P N cfg b Q rg σ):WA P N cfg (.cond x a b) Q rg σ:=⟨rfl,SW_cond (boolO_eq hx) (fun e=>(h1 e).h) (fun e=>(h2 e).h)⟩
theorem WA_block{id:Nat}{a:AC}(h:WA P N cfg a (blockQ id Q) rg σ):WA P N cfg (.block id a) Q rg σ:=⟨rfl,SW_block h.h⟩
theorem WA_keep{ks:List Nat}{a:AC}(hk:filtO ks rg=some rg')(h:WA P N cfg a Q rg' σ):WA P N cfg (.keep ks a) Q rg σ:=⟨rfl,SW.filt ks (by rw[filtO_eq hk];exact h.h)⟩
theorem WA_loop{a:AC}(I:Nat→Regs→Store→Prop)(n:Nat)(h0:I n rg σ)(h:∀ n rg σ,I n rg σ→WA P N cfg a (thenQ (fun rg' σ'=>∃ n',n'<n∧I n' rg' σ') Q) rg σ):WA P N cfg (.loop a) Q rg σ:=
 ⟨rfl,SW_loop I n h0 fun n rg σ hi=>(h n rg σ hi).h⟩
theorem WA.mono{a:AC}{Q':Exit→Regs→Store→Prop}(h:WA P N cfg a Q rg σ)(hq:∀ e rg σ,Q e rg σ→Q' e rg σ):WA P N cfg a Q' rg σ:=⟨rfl,h.h.mono hq⟩
theorem blockQ_t{id id':Nat}(e:Nat.beq id' id=true)(h:Q .normal rg σ):blockQ id Q (.exit id') rg σ:=by simp only[blockQ];rw[if_pos (Nat.eq_of_beq_eq_true e)];exact h
theorem blockQ_f{id id':Nat}(e:Nat.beq id' id=false)(h:Q (.exit id') rg σ):blockQ id Q (.exit id') rg σ:=by
 simp only[blockQ];rw[if_neg (fun k=>by subst k;simp[Nat.beq_refl]at e)];exact h
def Fin(σ0:Store)(r:AV)(x:AV)(σ:Store):Prop:=Wk x r∧Sub σ0 σ
theorem Fin.intro{σ0:Store}{r x:AV}(h:Sub σ0 σ)(e:x=r):Fin σ0 r x σ:=⟨Wk.ofeq e,h⟩
def cellO(x:AV):Option (List AV):=match x.cells? with
 |some l=>foL l some
 |none=>none
theorem cellO_eq{x:AV}{l:List AV}(h:cellO x=some l):x.cells? =some l:=by
 unfold cellO at h
 split at h
 ·rename_i e;have h:=foL_eq h;cases h;exact e
 ·cases h
variable {als cf:List Nat}{ix:Nat}{ld:List CD}
def okD(als cf:List Nat)(rg:Regs):IOp→Bool
 | .load a n x=>ldOK als cf rg (.load a n x)
 | .store n x y=>stOK als cf rg (.store n x y)
 | .box .. | .alloc .. | .append .. | .exts .. | .panic .. =>false
 |_=>true
theorem detO_keep{cfg:Nat→Nat}(hc:op.cls=0)(h:detO cfg d rg σ op=some (p,v,σ')):σ'=σ:=by
 cases op
 case load=>cases hc
 case store=>cases hc
 case alloc=>cases hc
 case box=>cases hc
 case append=>cases hc
 case exts=>cases hc
 case panic=>cases hc
 case len s x=>cases s<;>(simp only[detO]at h;repeat' split at h)<;>cases h<;>rfl
 all_goals simp only[detO,reduceCtorEq]at h
 all_goals(repeat' split at h)
 all_goals first
  |(cases h;done)
  |(cases h;rfl)
  |(have:=fo_eq h;cases this;rfl)
  |(have:=foL_eq h;cases this;rfl)
  |(have:=foLL_eq h;cases this;rfl)
  |(have h2:=(ite_none h).2;(repeat' split at h2)<;>first|(cases h2;done)|(cases h2;rfl)|(have:=fo_eq h2;cases this;rfl)|(have:=foL_eq h2;cases this;rfl))
theorem detO_Q{K:AV→Prop}(hc:op.cls=0)(h:detO cfg d rg σ op=some (p,v,σ'))(hp:p)(k:K v):vcOQ P cfg d rg σ K op:=by
 have hs:=detO_sound (P:=P) (K:=fun x _=>K x) (E:=fun _ _=>False) h hp k
 cases op with
 |mksl t esz parts=>
  simp only[vcOQ]
  simp only[detO]at h
  split at h
  ·rename_i rows e
   rw[e]
   split at h
   ·rename_i e2;have:=foLL_eq h;cases this;exact⟨hp,by simp only[e2];exact k⟩
   ·rename_i e2;have:=foLL_eq h;cases this;exact⟨hp,by simp only[e2];exact k⟩
   ·cases h
  ·cases h
 |len s x=>
  cases s with
  |true=>exact hs
  |false=>
   simp only[vcOQ]
   simp only[detO]at h
   split at h
   ·rename_i e;rw[e];cases h;exact k
   ·rename_i e;rw[e];cases h;exact k
   ·rename_i e;rw[e];cases h;exact k
   ·rename_i e;rw[e];cases h;exact k
   ·cases h
 |call f args=>cases h
 |callv f args=>cases h
 |extq op ty ti args=>cases h
 |exts op ty ti args=>cases hc
 |panic x=>cases hc
 |box t x=>cases hc
 |alloc t x=>cases hc
 |store n t x=>cases hc
 |append t n k z x y=>cases hc
 |load a n x=>cases hc
 |_=>exact hs
end
section
variable {P:Program}[Glob P]{cfg:Nat→Nat}{K:Regs→Store→Prop}{E:List PanicEntry→Store→Prop}{rg:Regs}{σ:Store}{l:List CI}{d:Option Nat}{op:IOp}{als cf:List Nat}{ix:Nat}{ld:List CD}
end
theorem Pure.run{P:Program}[Glob P][NoD P]{f:FuncId}{fn:Func}{fc:FC}{as:List AV}{r:AV}{a:AC}(cfg:Nat→Nat)(hf:P.funcs[f]? =some fn)(hc:compF P fn=some fc)(ha:fc.code=a.erase)(hlen:as.length≤fc.N)
  (h:∀ σ,WA P fc.N cfg a (pureQ fc.res r σ) (argR 0 as) σ):Pure P f as r:=
 Pure.intro hf hc hlen fun σ=>by rw[ha];exact(h σ).h
theorem Spec.run{P:Program}[Glob P][NoD P]{f:FuncId}{fn:Func}{fc:FC}{as:List AV}{σ:Store}{Q:Res→Store→Prop}{a:AC}(cfg:Nat→Nat)(hf:P.funcs[f]? =some fn)(hc:compF P fn=some fc)(ha:fc.code=a.erase)(hlen:as.length≤fc.N)
  (h:WA P fc.N cfg a (retQ fc.res Q) (argR 0 as) σ):Spec P f as σ Q:=
 Spec.intro hf hc hlen (by rw[ha];exact h.h)
def LoopE(I:Nat→Regs→Store→Prop)(n:Nat)(ks:List Nat)(rg:Regs)(σ:Store):Prop:=∃ n' rg',n'<n∧filtO ks rg=some rg'∧I n' rg' σ
section
variable {P:Program}[Glob P]{N:Nat}{cfg:Nat→Nat}{Q:Exit→Regs→Store→Prop}{K:Regs→Store→Prop}{E:List PanicEntry→Store→Prop}{rg rg':Regs}{σ σ':Store}{l:List CI}{d:Nat}{op:IOp}{p:Prop}{v:AV}
variable {als cf:List Nat}{ix:Nat}{ld:List CD}
theorem LoopE.intro{I:Nat→Regs→Store→Prop}{n:Nat}{ks:List Nat}(hk:filtO ks rg=some rg')(h:∃ n',n'<n∧I n' rg' σ):LoopE I n ks rg σ:=h.elim fun n' h=>⟨n',rg',h.1,hk,h.2⟩
def fnO(x:AV):Option (FuncId×Array Value×Array Value):=match x with
 | .v (.func (.func f) a c)=>some (f,a,c)
 |_=>none
theorem fnO_eq{x:AV}{f:FuncId}{a c:Array Value}(h:fnO x=some (f,a,c)):x= .v (.func (.func f) a c):=by
 unfold fnO at h
 split at h
 ·cases h;rfl
 ·cases h
def rowsO(x:AV):Option (Nat×List (List AV)):=match x with
 | .sl _ e rows=>some (e,rows)
 | .own e _ _ _ _ rows=>some (e,rows)
 |_=>none
theorem rowsO_eq{x:AV}{e:Nat}{rows:List (List AV)}(h:rowsO x=some (e,rows)):(∃ nn,x= .sl nn e rows)∨∃ t b u c,x= .own e t b u c rows:=by
 unfold rowsO at h
 split at h
 ·cases h;exact .inl ⟨_,rfl⟩
 ·cases h;exact .inr ⟨_,_,_,_,rfl⟩
 ·cases h
def intO(x:AV):Option Int:=match x with
 | .v (.int _ n)=>some n
 |_=>none
theorem intO_eq{x:AV}{n:Int}(h:intO x=some n):∃ q,x= .v (.int q n):=by
 unfold intO at h
 split at h
 ·cases h;exact⟨_,rfl⟩
 ·cases h
end
theorem Fin.wk{σ0 σ:Store}{r x:AV}(h:Sub σ0 σ)(w:Wk x r):Fin σ0 r x σ:=⟨w,h⟩
theorem bt{p:Prop}[Decidable p](h:p):AV.v (.bool true)=AV.v (.bool (decide p)):=by rw[decide_eq_true h]
theorem bf{p:Prop}[Decidable p](h:¬p):AV.v (.bool false)=AV.v (.bool (decide p)):=by rw[decide_eq_false h]
end Go.Sx
