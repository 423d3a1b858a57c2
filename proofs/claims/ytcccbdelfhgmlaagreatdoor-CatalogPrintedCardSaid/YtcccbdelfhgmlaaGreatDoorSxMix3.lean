/-
  The layer Sx, fifteenth part: the region whose order is open, with new variables and stores.
-/
import Derived.Test.YtcccbdelfhgmlaaGreatDoorSxMix2
set_option linter.unusedVariables false
set_option linter.unusedSimpArgs false
set_option linter.unusedSectionVars false
namespace Go.Sx
open Go.RowKit
def Cl(K:ag→Store→Prop)(rg:ag)(σ:Store):Prop:=∃ ao σ',(∀ i,lk ao i=lk rg i)∧dI σ' σ∧K ao σ'
theorem Cl.intro{K:ag→Store→Prop}{rg:ag}{σ:Store}(h:K rg σ):Cl K rg σ:=⟨rg,σ,fun _=>rfl,dI.refl _,h⟩
theorem Cl.closed(K:ag→Store→Prop):sj (Cl K):=fun _ _ _ _ hr hs ⟨ao,σ',h1,h2,h3⟩=>⟨ao,σ',fun i=>(h1 i).trans (hr i),h2.trans hs,h3⟩
def Ws(ops:Array Oper)(ah:List Nat)(a c:CD):Prop:=gz ops a.ix c.ix=false∧(gz ops c.ix a.ix=true∨j2 ah a c=true∨A9 ops 2 c.ix a.ix=true)
theorem Ta{ops:Array Oper}{ah:List Nat}:∀ (l:List CD),yK ops ah l=true→l.Pairwise (Ws ops ah)
 |[],_=> .nil
 |a::l,h=>by
  simp only[yK,Z0,ZA,Y7,YW]at h
  exact .cons (fun c hc=>⟨(h.1.2 c hc).1,by
   rcases(h.1.2 c hc).2 with(k|k)|k
   ·exact .inl k
   ·exact .inr (.inl k)
   ·exact .inr (.inr k.2)⟩) (Ta l h.2)
theorem Qi{ops:Array Oper}{p:Nat→Bool}(hd:∀ i,p i=true→∀ j,gz ops i j=true→p j=true):∀ (n i j:Nat),(∀ b,gz ops i b=true→p b=true)→A9 ops n i j=true→p j=true
 |0,i,j,hi,h=>hi j h
 |n+1,i,j,hi,h=>by
  rw[A9,Y7]at h
  rcases h with h|h
  ·exact hi j h
  ·obtain⟨b,_,hb⟩:=YC.1 h
   rw[Z0]at hb
   exact Qi hd n b j (fun c hc=>hd b (hi b hb.1) c hc) hb.2
theorem Tc{ops:Array Oper}{ah:List Nat}:∀ (l:List CD),yK ops ah l=true→∀ x∈l,gz ops x.ix x.ix=false
 |[],_,x,hx=>by cases hx
 |a::l,h,x,hx=>by
  simp only[yK,Z0,YW]at h
  rcases ZV.1 hx with rfl|hx
  ·exact h.1.1
  ·exact Tc l h.2 x hx
section
variable {P:Program}[Glob P]{M:Mem}{w0:Base}{σ:Store}{rg:ag}{cfg:Nat→Nat}{N:Nat}{ah:List Nat}
theorem Lr{K K':ag→Store→Prop}(hk:∀ rg σ,K rg σ→K' rg σ):∀ (l:List CD) (rg:ag) (σ:Store),(∀ x∈l,gI x=true)→cZ P cfg ah l K rg σ→cZ P cfg ah l K' rg σ
 |[],rg,σ,_,h=>hk _ _ h
 |c::l,rg,σ,ho,h=>CL (ho c (by simp)) h fun y az _ hv=>Lr hk l _ az (fun x hx=>ho x (by simp[hx])) hv
theorem Mx{l:List CD}{Q:Exit→ag→Store→Prop}(cfg:Nat→Nat)(Ψ:List CD→ag→Store→Prop)(h0:(∀ x∈l,gI x=true)→Ψ l rg σ)(aeK:∀ rg σ,Ψ [] rg σ→Cl (Q .normal) rg σ)
  (afg:∀ (A:List CD) (x:CD) (B:List CD) (rg:ag) (σ:Store),(∀ a∈A++x::B,gI a=true)→(∀ a∈A,j2 ah a x=true)→Ψ (A++x::B) rg σ→
   ∃ ao σ',(∀ i,lk ao i=lk rg i)∧dI σ' σ∧dO P cfg x.c (fun y az=>Ψ (A++B) (cm x.c.d y rg) az) (fun ch σ'=>Q (.panic ch) [] σ') ao σ'):SW P N (.dC ah l) Q rg σ:=by
 intro c hc M w0 a w hI hR hN hD
 obtain⟨id,ops,cl,rfl,b7,x8,bK,s8⟩:=eD hc
 obtain⟨hlen,DY⟩:=Dn ops.toList cl b7
 unfold EG at bK
 simp only[Z0,Zq]at bK
 obtain⟨⟨⟨⟨⟨hnd,qX⟩,aeF⟩,tn⟩,aeA⟩,Q6⟩:=bK
 have afd:=Tc l Q6
 have qX:=Z7 qX
 have Ji:∀ x∈l,gI x=true:=ZA.1 tn
 have ou:=Ta l Q6
 have ax:∀ x∈l,x.ix<ops.size:=fun x hx=>by
  have:=(ZP.1 (x8 x hx)).1
  rw[hlen]at this
  simpa using this
 have h':=h0 Ji
 refine G8 s8 ?_
 have main:∀ (fuel:Nat) (L:List CD) (listed:Array Bool) (a:Act) (w:World),listed.size=ops.size→L.length≤fuel→L.Sublist l→
   (∀ i,i<ops.size→(listed.getD i true=false↔∃ x∈L,x.ix=i))→(∀ i,listed.getD i false=true→∀ j,gz ops i j=true→listed.getD j false=true)→
   (∃ M2 cq az,M.le M2∧Inv P M2 w0 az w∧bQ M2 cq a∧a.tmps.size=N∧a.defers=Glob.df P∧Ψ L cq az)→
   wpAny P .any ops (iB P M w0 N Q) fuel listed a w:=by
  have fin:∀ (a:Act) (w:World),(∃ M2 cq az,M.le M2∧Inv P M2 w0 az w∧bQ M2 cq a∧a.tmps.size=N∧a.defers=Glob.df P∧Ψ [] cq az)→iB P M w0 N Q .normal a w:=by
   rintro a w ⟨M2,cq,az,g1,g2,g3,g4,g5,g6⟩
   obtain⟨eJ,dS,k1,k2,k3⟩:=aeK _ _ g6
   exact⟨M2,eJ,dS,g1,g2.perm k2.2.symm,fun i=>by rw[k1];exact g3 i,g4,g5,k3⟩
  intro fuel
  induction fuel with
  |zero=>
   intro L listed a w aQ xX cj hL IP er
   obtain rfl:L=[]:=List.length_eq_zero_iff.1 (by omega)
   refine⟨?_,fin a w er⟩
   unfold Region.ready
   rw[X4]
   intro i hi
   have dk:i<ops.size:=by simpa using hi
   have:listed.getD i true=true:=by
    cases om:listed.getD i true with
    |true=>rfl
    |false=>obtain⟨x,hx,_⟩:=(hL i dk).1 om;cases hx
   simp[this]
  |succ fuel ih=>
   intro L listed a w aQ xX cj hL IP er
   have ID:∀ i,i<ops.size→listed.getD i false=listed.getD i true:=fun i hi=>by
    rw[Z2,Z2,ZL (by omega)];rfl
   refine⟨fun hr=> ?_,fun i hi=> ?_⟩
   ·cases L with
    |nil=>exact fin a w er
    |cons x L=>
     exfalso
     have hx:=cj.subset (ZJ)
     have pS:=ax x hx
     have Jq:=ou.sublist cj
     have:x.ix∈Region.ready .any ops listed:=by
      unfold Region.ready
      rw[Ze]
      refine⟨by simpa using pS,?_⟩
      have om:listed.getD x.ix true=false:=(hL x.ix pS).2 ⟨x,by simp,rfl⟩
      simp only[om,XF,Bool.true_and,ZL pS,Zh,Zx]
      rw[ZE]
      intro e he
      cases kO:Region.binds .any e with
      |false=>rfl
      |true=>
       have pL:e.on<ops.size:=by
        have h1:=ZE.1 aeA _ (Ys pS)
        have h2:=ZE.1 h1 e he
        simpa[kO]using h2
       have:listed.getD e.on true=true:=by
        cases hle:listed.getD e.on true with
        |true=>rfl
        |false=>
         exfalso
         obtain⟨y,hy,hyi⟩:=(hL e.on pL).1 hle
         have hE:gz ops x.ix y.ix=true:=by
          unfold gz
          rw[ZL pS]
          simp only[X2]
          obtain⟨m,hm,hme⟩:=Array.mem_iff_getElem.1 he
          exact⟨m,hm,by rw[hme,kO,hyi];simp⟩
         rcases ZV.1 hy with rfl|hy
         ·
          have:=(afd y hx)
          rw[this]at hE;cases hE
         ·have:=(List.rel_of_pairwise_cons Jq hy).1
          rw[this]at hE;cases hE
       simp[ID e.on pL,this]
     rw[hr]at this
     cases this
   ·unfold Region.ready at hi
    rw[Ze]at hi
    obtain⟨qU,lO⟩:=hi
    have gd:i<ops.size:=by simpa using qU
    simp only[Z0,YW,ZL gd,Zh,Zx]at lO
    obtain⟨qZ,x3⟩:=lO
    obtain⟨x,Rx,rfl⟩:=(hL i gd).1 qZ
    obtain⟨A,B,rfl⟩:=List.append_of_mem Rx
    have hx:=cj.subset Rx
    obtain⟨M2,cq,az,g1,g2,g3,g4,g5,g6⟩:=er
    have Jq:=ou.sublist cj
    have Ra:∀ b,gz ops x.ix b=true→listed.getD b false=true:=fun b hb=>by
     unfold gz at hb
     rw[ZL gd]at hb
     simp only[X2,Z0,beq_iff_eq]at hb
     obtain⟨m,hm,s6,pL⟩:=hb
     have:=ZE.1 x3 _ (Ys hm)
     rw[s6,pL]at this
     simpa using this
    have hA:∀ a∈A,j2 ah a x=true∧gI a=true:=by
     intro b hb
     refine⟨?_,Ji b (cj.subset (by simp[hb]))⟩
     have hp:=(XZ.1 Jq).2.2 b hb x (by simp)
     rcases hp.2 with hE|hc|hR
     rotate_left 2
     ·exfalso
      have:=Qi (p:=fun i=>listed.getD i false) IP 2 x.ix b.ix Ra hR
      have hY:=ax b (cj.subset (by simp[hb]))
      try simp only at this
      rw[ID _ hY,(hL b.ix hY).2 ⟨b,by simp[hb],rfl⟩]at this
      cases this
     ·exfalso
      unfold gz at hE
      rw[ZL gd]at hE
      simp only[X2,Z0,beq_iff_eq]at hE
      obtain⟨m,hm,s6,pL⟩:=hE
      have:=ZE.1 x3 _ (Ys hm)
      rw[s6,pL]at this
      have hY:=ax b (cj.subset (by simp[hb]))
      rw[ID _ hY,(hL b.ix hY).2 ⟨b,by simp[hb],rfl⟩]at this
      simp at this
     ·exact hc
    obtain⟨rgq,σq,eq1,eq2,hq⟩:=afg A x B cq az (fun b hb=>Ji b (cj.subset hb)) (fun b hb=>(hA b hb).1) g6
    have pF:qM P N ops ops[x.ix]=some x.c:=by
     have xW:x.ix<cl.length:=by rw[hlen];simpa using gd
     have:=DY x.ix (by simpa using gd) xW
     have e:=x8 x hx
     rw[Z4 xW]at e
     have e:=Y2 e
     rw[← e]
     simpa using this
    obtain⟨j6,aeZ⟩:=AD pF
    unfold wpOp
    simp only[ZL gd]
    refine uY pF hq (g2.perm eq2.2.symm) (fun i=>by rw[eq1];exact g3 i) ⟨?_,fun M3 ch dS w' hM aP hk=>⟨M3,[],dS,g1.trans hM,aP,fun i=> .any _,g4,g5,hk⟩⟩
    rintro M3 y dS v w' hM aP hy hv
    have ae3:((A++x::B).map (·.ix)).Nodup:=hnd.sublist (cj.map _)
    refine ih (A++B) _ _ _ (by simp[aQ]) (by simp at xX ⊢;omega) (List.Sublist.trans (List.Sublist.append (List.Sublist.refl A) (List.sublist_cons_self x B)) cj) (fun j hj=> ?_) (fun i hi j gA=> ?_)
     ⟨M3,_,dS,g1.trans hM,aP,by rw[j6];exact(g3.mono hM).put _ (fun t ht=>by rw[g4];exact aeZ t (j6.trans ht)) hy,by rw[Act.size_put];exact g4,by rw[Act.AG];exact g5,hv⟩
    rotate_left
    ·have QX:∀ k,listed.getD k false=true→(listed.setIfInBounds x.ix true).getD k false=true:=fun k hk=>by
      rw[Z2]at hk ⊢
      rw[Zv]
      split
      ·rename_i e;subst e;simp[aQ,gd]
      ·exact hk
     by_cases yn:x.ix=i
     ·subst yn;exact QX j (Ra j gA)
     ·refine QX j (IP i ?_ j gA)
      rw[Z2,Zv,Z9 yn]at hi
      rw[Z2];exact hi
    have lY:∀ z∈A++B,z.ix≠x.ix:=by
     intro z hz e
     have hp:((x::(A++B)).map (·.ix)).Nodup:=(((Yb (a:=x) (l₁:=A) (l₂:=B)).map (·.ix)).nodup_iff).1 ae3
     rw[Zu,YG]at hp
     exact hp.1 (by rw[← e];exact Yq hz)
    by_cases j7:x.ix=j
    ·subst j7
     have e:(listed.setIfInBounds x.ix true).getD x.ix true=true:=by
      rw[Z2,Zv];simp[aQ,gd]
     rw[e]
     exact⟨fun h=>(nomatch h),fun⟨z,hz,e⟩=>absurd e (lY z hz)⟩
    ·have e:(listed.setIfInBounds x.ix true).getD j true=listed.getD j true:=by
      rw[Z2,Zv,Z9 j7,Z2]
     rw[e,hL j hj]
     constructor
     ·rintro⟨z,hz,rfl⟩
      refine⟨z,?_,rfl⟩
      rcases ZG.1 hz with hz|hz
      ·exact ZN _ hz
      ·rcases ZV.1 hz with rfl|hz
       ·exact absurd rfl j7
       ·exact Zt _ hz
     ·rintro⟨z,hz,rfl⟩
      refine⟨z,?_,rfl⟩
      rcases ZG.1 hz with hz|hz
      ·exact ZN _ hz
      ·exact Zt _ (ZU _ hz)
 have aeG:∀ i,i<ops.size→∃ x∈l,x.ix=i:=fun i hi=>by
  have:=ZA.1 aeF i (by simpa using hi)
  obtain⟨x,hx,e⟩:=YC.1 this
  exact⟨x,hx,ZB e⟩
 refine main ops.size l _ a _ (by simp) qX (List.Sublist.refl _) (fun i hi=> ?_) (fun i hi=> ?_) ⟨M,rg,σ,Mem.le.refl _,hI.lK,hR,hN,hD,h'⟩
 rotate_left
 ·exfalso
  rw[Z2,Array.getElem?_replicate]at hi
  split at hi<;>cases hi
 have e:(Array.replicate ops.size false).getD i true=false:=by simp[hi]
 exact⟨fun _=>aeG i hi,fun _=>e⟩
theorem Mw{l:List CD}{Q:Exit→ag→Store→Prop}(cfg:Nat→Nat)(h:cZ P cfg ah l (Q .normal) rg σ):SW P N (.dC ah l) Q rg σ:=
 Mx cfg (fun L rg σ=>cZ P cfg ah L (Cl (Q .normal)) rg σ) (fun ho=>Lr (fun _ _=>Cl.intro) l rg σ ho h) (fun _ _ h=>h)
  fun A x B rg σ ho hA hv=>⟨rg,σ,fun _=>rfl,dI.refl _,FR (ho x (by simp)) (DJ (Cl.closed _) (ho x (by simp)) A B rg σ (fun a ha=>⟨hA a ha,ho a (by simp[ha])⟩) (fun b hb=>ho b (by simp[hb])) hv)⟩
theorem C4{s:SC}{Q:Exit→ag→Store→Prop}(h:SW P N s (fun e=>Cl (Q e)) rg σ):SW P N s Q rg σ:=
 fun c hc M w0 a w hI hR hN hD=>G9 (h c hc M w0 a w hI hR hN hD) fun _ _ _ ⟨M2,cq,az,h1,h2,h3,h4,h5,eJ,dS,k1,k2,k3⟩=>
  ⟨M2,eJ,dS,h1,h2.perm k2.2.symm,fun i=>by rw[k1];exact h3 i,h4,h5,k3⟩
def bare(l:List CI):List CD:=l.map fun c=>⟨0,c,[]⟩
theorem CM{K:ag→Store→Prop}:∀ (l:List CI) (rg fV:ag),(∀ i,lk rg i=lk fV i)→(∀ c∈l,c.op.cls≤1∨(c.op.cls=4∧c.g=none))→cZ P cfg [] (bare l) K rg σ→
  C1 P cfg (fun ao=>K ao σ) l fV σ
 |[],rg,fV,he,_,h=>⟨[],rfl,⟨rg,h,he⟩,fun i h=>absurd h (by simp)⟩
 |c::l,rg,fV,he,hc,h=>by
  have h1:c.op.cls≤1:=by
   rcases hc c (by simp)with h1|⟨h1,h2⟩
   ·exact h1
   ·exfalso
    have h:du P cfg [] ⟨0,c,[]⟩ (fun x σ'=>cZ P cfg [] (bare l) K (cm c.d x rg) σ') rg σ:=h
    unfold du de at h
    simp only[h1,h2]at h
    have:=h.1
    simp at this
  have ho:gI ⟨0,c,[]⟩=true:=by
   unfold gI
   have h2:Nat.ble c.op.cls 1=true:=Nat.ble_eq_true_of_le h1
   have h3:(Nat.ble c.op.cls 3 || isApp c.op)=true:=by rw[Nat.ble_eq_true_of_le (by omega)];rfl
   have h4:Nat.beq c.op.cls 2=false:=by rw[← X9,Nat.beq_eq];omega
   simp only[h2,h3,h4];rfl
  obtain⟨x,hx,hv⟩:=xy (c:=⟨0,c,[]⟩) h1 h
  have hq:QV P cfg c rg σ x:=FR (c:=⟨0,c,[]⟩) (E:=fun _ _=>False) ho (hv σ (fun _ _ _ _ _ _ h=>h) (fun y s=>y=x∧s=σ) ⟨rfl,rfl⟩)
  obtain⟨xs,g1,g2,g3⟩:=CM l _ (cm c.d x fV) (yA he c.d x) (fun c' h'=>hc c' (by simp[h'])) hx
  refine⟨x::xs,by simp[g1],g2,fun i hi dk=> ?_⟩
  cases i with
  |zero=>exact uI (fun t _=>he t) hq
  |succ i=>simpa[dD]using g3 i (by simpa using hi) (by simpa using dk)
theorem CN{K:ag→Store→Prop}:∀ (l:List CI) (rg:ag),(∀ c∈l,c.op.cls≤1∨(c.op.cls=4∧c.g=none))→cZ P cfg [] (bare l) K rg σ→∀ c∈l,c.op.cls≤1
 |[],_,_,_=>fun _ h=>by cases h
 |c::l,rg,hc,h=>by
  have h1:c.op.cls≤1:=by
   rcases hc c (by simp)with h1|⟨h1,h2⟩
   ·exact h1
   ·exfalso
    have h:du P cfg [] ⟨0,c,[]⟩ (fun x σ'=>cZ P cfg [] (bare l) K (cm c.d x rg) σ') rg σ:=h
    unfold du de at h
    simp only[h1,h2]at h
    have:=h.1
    simp at this
  obtain⟨x,hx,_⟩:=xy (c:=⟨0,c,[]⟩) h1 h
  intro c' gO
  rcases ZV.1 gO with rfl|gO
  ·exact h1
  ·exact CN l _ (fun c h=>hc c (by simp[h])) hx c' gO
theorem Wz{l:List CI}{Q:Exit→ag→Store→Prop}(cfg:Nat→Nat)(h:cZ P cfg [] (bare l) (Cl (Q .normal)) rg σ):SW P N (.dV l) Q rg σ:=
 C4 (xf cfg fun hc=>⟨CM (K:=Cl (Q .normal)) l rg rg (fun _=>rfl) hc h,CN l rg hc h⟩)
theorem WD{l:List CD}{Q:Exit→ag→Store→Prop}(cfg:Nat→Nat)(h:cZ P cfg ah l (Cl (Q .normal)) rg σ):SW P N (.dC ah l) Q rg σ:=
 C4 (Mw (Q:=fun e=>Cl (Q e)) cfg h)
end
inductive AC where
 |skip
 |cE (l:List CI)
 |dV (l:List CI)
 |dC (ah:List Nat) (l:List CD)
 |seq (a b:AC)
 |cond (c:Operand) (t e:AC)
 |block (id:Nat) (b:AC)
 |loop (b:AC)
 |exit (id:Nat)
 |ret
 |scope (b:AC)
 |label (l:Nat)
 |goto (l:Nat)
 |keep (ks:List Nat) (a:AC)
 |stop (a:AC)
def AC.erase:AC→SC
 | .skip=> .skip
 | .cE l=> .cE l
 | .dV l=> .dV l
 | .dC ah l=> .dC ah l
 | .seq a b=> .seq a.erase b.erase
 | .cond c t e=> .cond c t.erase e.erase
 | .block id b=> .block id b.erase
 | .loop b=> .loop b.erase
 | .exit id=> .exit id
 | .ret=> .ret
 | .scope b=> .scope b.erase
 | .label l=> .label l
 | .goto l=> .goto l
 | .keep _ a=>a.erase
 | .stop a=>a.erase
def Stop(P:Program)[Glob P](N:Nat)(a:AC)(Q:Exit→ag→Store→Prop)(rg:ag)(σ:Store):Prop:=SW P N a.erase Q rg σ
def qo(P:Program)[Glob P](N:Nat)(cfg:Nat→Nat):AC→(Exit→ag→Store→Prop)→ag→Store→Prop
 | .skip,Q,rg,σ=>Q .normal rg σ
 | .cE l,Q,rg,σ=>qp P cfg l (Q .normal) (fun ch σ'=>Q (.panic ch) [] σ') rg σ
 | .dV l,Q,rg,σ=>oS P cfg l (fun ao=>Q .normal ao σ) rg σ
 | .dC ah l,Q,rg,σ=>cZ P cfg ah l (Q .normal) rg σ
 | .seq a b,Q,rg,σ=>qo P N cfg a (nH (qo P N cfg b Q) Q) rg σ
 | .cond c t e,Q,rg,σ=>match ev rg c with
  | .v (.bool b)=>Gd b true (qo P N cfg t Q rg σ) (qo P N cfg e Q rg σ)
  |_=>False
 | .block id b,Q,rg,σ=>qo P N cfg b (qH id Q) rg σ
 | .loop b,Q,rg,σ=>Stop P N (.loop b) Q rg σ
 | .exit id,Q,rg,σ=>Q (.exit id) rg σ
 | .ret,Q,rg,σ=>Q .ret rg σ
 | .scope b,Q,rg,σ=>Stop P N (.scope b) Q rg σ
 | .label l,Q,rg,σ=>Q .normal rg σ
 | .goto l,Q,rg,σ=>Q (.goto l) rg σ
 | .keep ks a,Q,rg,σ=>qo P N cfg a Q (fG ks rg) σ
 | .stop a,Q,rg,σ=>Stop P N a Q rg σ
theorem um{P:Program}[Glob P]{N:Nat}(cfg:Nat→Nat):∀ (a:AC) (Q:Exit→ag→Store→Prop) (rg:ag) (σ:Store),qo P N cfg a Q rg σ→SW P N a.erase Q rg σ
 | .skip,Q,rg,σ,h=>MA h
 | .cE l,Q,rg,σ,h=>WE cfg h
 | .dV l,Q,rg,σ,h=>Wx cfg h
 | .dC ah l,Q,rg,σ,h=>Mw cfg h
 | .seq a b,Q,rg,σ,h=>Mz ((um cfg a _ rg σ h).mono fun e ao σ' he=>by
   cases e with
   |normal=>exact um cfg b Q ao σ' he
   |_=>exact he)
 | .cond c t e,Q,rg,σ,h=>by
  simp only[qo]at h
  split at h
  ·rename_i b hb
   exact Mr hb (fun hb=>um cfg t Q rg σ (h.l hb)) (fun hb=>um cfg e Q rg σ (h.r hb))
  ·exact h.elim
 | .block id b,Q,rg,σ,h=>Mq (um cfg b _ rg σ h)
 | .loop b,Q,rg,σ,h=>h
 | .exit id,Q,rg,σ,h=>Ms h
 | .ret,Q,rg,σ,h=>My h
 | .scope b,Q,rg,σ,h=>h
 | .label l,Q,rg,σ,h=>Mu h
 | .goto l,Q,rg,σ,h=>Mt h
 | .keep ks a,Q,rg,σ,h=>SW.fG ks (um cfg a Q _ σ h)
 | .stop a,Q,rg,σ,h=>h
theorem Stop.run{P:Program}[Glob P]{N:Nat}(cfg:Nat→Nat){a:AC}{Q:Exit→ag→Store→Prop}{rg:ag}{σ:Store}(h:qo P N cfg a Q rg σ):Stop P N a Q rg σ:=um cfg a Q rg σ h
theorem Stop.loop{P:Program}[Glob P]{N:Nat}{b:AC}{Q:Exit→ag→Store→Prop}{rg:ag}{σ:Store}(cfg:Nat→Nat)(I:Nat→ag→Store→Prop)(n:Nat)(h0:I n rg σ)
  (h:∀ n rg σ,I n rg σ→qo P N cfg b (nH (fun ao σ'=>∃ n',n'<n∧I n' ao σ') Q) rg σ):Stop P N (.loop b) Q rg σ:=
 Mv I n h0 fun n rg σ hi=>um cfg b _ rg σ (h n rg σ hi)
theorem Stop.mono{P:Program}[Glob P]{N:Nat}{a:AC}{Q Q':Exit→ag→Store→Prop}{rg:ag}{σ:Store}(h:Stop P N a Q rg σ)(hq:∀ e rg σ,Q e rg σ→Q' e rg σ):Stop P N a Q' rg σ:=SW.mono h hq
theorem stop_congr{P:Program}[Glob P]{N:Nat}{a:AC}{Q:Exit→ag→Store→Prop}{rg ao:ag}{σ σ':Store}(h:rg=ao)(k:σ=σ'):Stop P N a Q rg σ=Stop P N a Q ao σ':=by rw[h,k]
attribute [congr] stop_congr
attribute [congr] callP_congr
attribute [congr] qcall_congr
structure WA(P:Program)[Glob P](N:Nat)(cfg:Nat→Nat)(a:AC)(Q:Exit→ag→Store→Prop)(rg:ag)(σ:Store):Prop where
 c:cfg=cfg
 h:SW P N a.erase Q rg σ
def iE:List Nat→ag→Option ag
 |[],_=>some []
 |k::ks,rg=>fo (lk rg k) fun x=>match iE ks rg with
  |some l=>some ((k,x)::l)
  |none=>none
theorem HJ:∀ {ks:List Nat} {rg l:ag},iE ks rg=some l→fG ks rg=l
 |[],_,_,h=>by cases h;rfl
 |k::ks,rg,l,h=>by
  have h:=iZ h
  split at h
  ·rename_i l' h';cases h;simp only[fG,HJ h']
  ·cases h
def Ho(rg:ag):List Operand→Option (List AV)
 |[]=>some []
 |x::l=>fo (ev rg x) fun v=>match Ho rg l with
  |some vs=>some (v::vs)
  |none=>none
theorem OZ{rg:ag}:∀ {l:List Operand} {vs:List AV},Ho rg l=some vs→bo rg l=vs
 |[],_,h=>by cases h;rfl
 |x::l,vs,h=>by
  have h:=iZ h
  split at h
  ·rename_i l' h';cases h;simp only[bo,OZ h']
  ·cases h
def Ax(rg:ag)(x:Operand):Option Bool:=match ev rg x with
 | .v (.bool b)=>some b
 |_=>none
theorem abw{rg:ag}{x:Operand}{b:Bool}(h:Ax rg x=some b):ev rg x= .v (.bool b):=by
 unfold Ax at h
 split at h
 ·rename_i e;cases h;exact e
 ·cases h
section
variable {P:Program}[Glob P]{N:Nat}{cfg:Nat→Nat}{Q:Exit→ag→Store→Prop}{K:ag→Store→Prop}{E:List PanicEntry→Store→Prop}{rg ao:ag}{σ σ':Store}{l:List CI}{d:Option Nat}{op:aw}{p:Prop}{v:AV}
theorem MJ{a b:AC}(h:WA P N cfg a (nH (fun rg σ=>WA P N cfg b Q rg σ) Q) rg σ):WA P N cfg (.seq a b) Q rg σ:=
 ⟨rfl,Mz (h.h.mono fun e ao σ' he=>by
  cases e with
  |normal=>exact he.h
  |_=>exact he)⟩
theorem aav(h:Q .normal rg σ):WA P N cfg .skip Q rg σ:=⟨rfl,MA h⟩
theorem aau(h:Q .ret rg σ):WA P N cfg .ret Q rg σ:=⟨rfl,My h⟩
theorem aap{id:Nat}(h:Q (.exit id) rg σ):WA P N cfg (.exit id) Q rg σ:=⟨rfl,Ms h⟩
theorem aan{x:Operand}{a b:AC}{c:Bool}(hx:Ax rg x=some c)(h1:c=true→WA P N cfg a Q rg σ)(h2:c=false→WA P N cfg b Q rg σ):WA P N cfg (.cond x a b) Q rg σ:=⟨rfl,Mr (abw hx) (fun e=>(h1 e).h) (fun e=>(h2 e).h)⟩
theorem aam{id:Nat}{a:AC}(h:WA P N cfg a (qH id Q) rg σ):WA P N cfg (.block id a) Q rg σ:=⟨rfl,Mq h.h⟩
theorem MI{ks:List Nat}{a:AC}(hk:iE ks rg=some ao)(h:WA P N cfg a Q ao σ):WA P N cfg (.keep ks a) Q rg σ:=⟨rfl,SW.fG ks (by rw[HJ hk];exact h.h)⟩
theorem aaq{a:AC}(I:Nat→ag→Store→Prop)(n:Nat)(h0:I n rg σ)(h:∀ n rg σ,I n rg σ→WA P N cfg a (nH (fun ao σ'=>∃ n',n'<n∧I n' ao σ') Q) rg σ):WA P N cfg (.loop a) Q rg σ:=
 ⟨rfl,Mv I n h0 fun n rg σ hi=>(h n rg σ hi).h⟩
theorem WA.mono{a:AC}{Q':Exit→ag→Store→Prop}(h:WA P N cfg a Q rg σ)(hq:∀ e rg σ,Q e rg σ→Q' e rg σ):WA P N cfg a Q' rg σ:=⟨rfl,h.h.mono hq⟩
theorem abt{id pV:Nat}(e:Nat.beq pV id=true)(h:Q .normal rg σ):qH id Q (.exit pV) rg σ:=by simp only[qH];rw[Z8 (ZB e)];exact h
theorem abr{id pV:Nat}(e:Nat.beq pV id=false)(h:Q (.exit pV) rg σ):qH id Q (.exit pV) rg σ:=by
 simp only[qH];rw[Z9 (fun k=>by subst k;simp[YB]at e)];exact h
def Fin(fY:Store)(r:AV)(x:AV)(σ:Store):Prop:=Wk x r∧Sub fY σ
theorem Fin.intro{fY:Store}{r x:AV}(h:Sub fY σ)(e:x=r):Fin fY r x σ:=⟨Wk.oK e,h⟩
def uQ(x:AV):Option (List AV):=match x.cells? with
 |some l=>j4 l some
 |none=>none
theorem G1{x:AV}{l:List AV}(h:uQ x=some l):x.cells? =some l:=by
 unfold uQ at h
 split at h
 ·rename_i e;have h:=jJ h;cases h;exact e
 ·cases h
variable {ah cf:List Nat}{ix:Nat}{ld:List CD}
def SY(ah cf:List Nat)(rg:ag):aw→Bool
 | .load a n x=>nu ah cf rg (.load a n x)
 | .store n x y=>uh ah cf rg (.store n x y)
 | .box .. | .alloc .. | .append .. | .exts .. | .panic .. =>false
 |_=>true
theorem OJ{cfg:Nat→Nat}(hc:op.cls=0)(h:dr cfg d rg σ op=some (p,v,σ')):σ'=σ:=by
 cases op
 case load=>cases hc
 case store=>cases hc
 case alloc=>cases hc
 case box=>cases hc
 case append=>cases hc
 case exts=>cases hc
 case panic=>cases hc
 case len s x=>cases s<;>(simp only[dr]at h;repeat' split at h)<;>cases h<;>rfl
 all_goals simp only[dr,reduceCtorEq]at h
 all_goals(repeat' split at h)
 all_goals first
  |(cases h;done)
  |(cases h;rfl)
  |(have:=iZ h;cases this;rfl)
  |(have:=jJ h;cases this;rfl)
  |(have:=uX h;cases this;rfl)
  |(have h2:=(tG h).2;(repeat' split at h2)<;>first|(cases h2;done)|(cases h2;rfl)|(have:=iZ h2;cases this;rfl)|(have:=jJ h2;cases this;rfl))
theorem acU{K:AV→Prop}(hc:op.cls=0)(h:dr cfg d rg σ op=some (p,v,σ'))(hp:p)(k:K v):aG P cfg d rg σ K op:=by
 have hs:=Ds (P:=P) (K:=fun x _=>K x) (E:=fun _ _=>False) h hp k
 cases op with
 |bM t af parts=>
  simp only[aG]
  simp only[dr]at h
  split at h
  ·rename_i rows e
   rw[e]
   split at h
   ·rename_i e2;have:=uX h;cases this;exact⟨hp,by simp only[e2];exact k⟩
   ·rename_i e2;have:=uX h;cases this;exact⟨hp,by simp only[e2];exact k⟩
   ·cases h
  ·cases h
 |len s x=>
  cases s with
  |true=>exact hs
  |false=>
   simp only[aG]
   simp only[dr]at h
   split at h
   ·rename_i e;rw[e];cases h;exact k
   ·rename_i e;rw[e];cases h;exact k
   ·rename_i e;rw[e];cases h;exact k
   ·rename_i e;rw[e];cases h;exact k
   ·cases h
 |call f args=>cases h
 |dY f args=>cases h
 |cH op ty ti args=>cases h
 |exts op ty ti args=>cases hc
 |panic x=>cases hc
 |box t x=>cases hc
 |alloc t x=>cases hc
 |store n t x=>cases hc
 |append t n k z x y=>cases hc
 |load a n x=>cases hc
 |_=>exact hs
end
section
variable {P:Program}[Glob P]{cfg:Nat→Nat}{K:ag→Store→Prop}{E:List PanicEntry→Store→Prop}{rg:ag}{σ:Store}{l:List CI}{d:Option Nat}{op:aw}{ah cf:List Nat}{ix:Nat}{ld:List CD}
end
theorem Pure.run{P:Program}[Glob P][kG P]{f:FuncId}{fn:Func}{fc:FC}{as:List AV}{r:AV}{a:AC}(cfg:Nat→Nat)(hf:P.funcs[f]? =some fn)(hc:cK P fn=some fc)(ha:fc.code=a.erase)(hlen:as.length≤fc.N)
  (h:∀ σ,WA P fc.N cfg a (nE fc.res r σ) (jZ 0 as) σ):Pure P f as r:=
 Pure.intro hf hc hlen fun σ=>by rw[ha];exact(h σ).h
theorem Spec.run{P:Program}[Glob P][kG P]{f:FuncId}{fn:Func}{fc:FC}{as:List AV}{σ:Store}{Q:dH→Store→Prop}{a:AC}(cfg:Nat→Nat)(hf:P.funcs[f]? =some fn)(hc:cK P fn=some fc)(ha:fc.code=a.erase)(hlen:as.length≤fc.N)
  (h:WA P fc.N cfg a (mD fc.res Q) (jZ 0 as) σ):Spec P f as σ Q:=
 Spec.intro hf hc hlen (by rw[ha];exact h.h)
def Mi(I:Nat→ag→Store→Prop)(n:Nat)(ks:List Nat)(rg:ag)(σ:Store):Prop:=∃ n' ao,n'<n∧iE ks rg=some ao∧I n' ao σ
section
variable {P:Program}[Glob P]{N:Nat}{cfg:Nat→Nat}{Q:Exit→ag→Store→Prop}{K:ag→Store→Prop}{E:List PanicEntry→Store→Prop}{rg ao:ag}{σ σ':Store}{l:List CI}{d:Nat}{op:aw}{p:Prop}{v:AV}
variable {ah cf:List Nat}{ix:Nat}{ld:List CD}
theorem Mi.intro{I:Nat→ag→Store→Prop}{n:Nat}{ks:List Nat}(hk:iE ks rg=some ao)(h:∃ n',n'<n∧I n' ao σ):Mi I n ks rg σ:=h.elim fun n' h=>⟨n',ao,h.1,hk,h.2⟩
def xF(x:AV):Option (FuncId×Array Value×Array Value):=match x with
 | .v (.func (.func f) a c)=>some (f,a,c)
 |_=>none
theorem DH{x:AV}{f:FuncId}{a c:Array Value}(h:xF x=some (f,a,c)):x= .v (.func (.func f) a c):=by
 unfold xF at h
 split at h
 ·cases h;rfl
 ·cases h
def nF(x:AV):Option (Nat×List (List AV)):=match x with
 | .sl _ e rows=>some (e,rows)
 | .own e _ _ _ _ rows=>some (e,rows)
 |_=>none
theorem Ck{x:AV}{e:Nat}{rows:List (List AV)}(h:nF x=some (e,rows)):(∃ nn,x= .sl nn e rows)∨∃ t b u c,x= .own e t b u c rows:=by
 unfold nF at h
 split at h
 ·cases h;exact .inl ⟨_,rfl⟩
 ·cases h;exact .inr ⟨_,_,_,_,rfl⟩
 ·cases h
def iL(x:AV):Option Int:=match x with
 | .v (.int _ n)=>some n
 |_=>none
theorem rA{x:AV}{n:Int}(h:iL x=some n):∃ q,x= .v (.int q n):=by
 unfold iL at h
 split at h
 ·cases h;exact⟨_,rfl⟩
 ·cases h
end
theorem Fin.wk{fY σ:Store}{r x:AV}(h:Sub fY σ)(w:Wk x r):Fin fY r x σ:=⟨w,h⟩
theorem bt{p:Prop}[Decidable p](h:p):AV.v (.bool true)=AV.v (.bool (decide p)):=by rw[Zi h]
theorem bf{p:Prop}[Decidable p](h:¬p):AV.v (.bool false)=AV.v (.bool (decide p)):=by rw[Zn h]
end Go.Sx
