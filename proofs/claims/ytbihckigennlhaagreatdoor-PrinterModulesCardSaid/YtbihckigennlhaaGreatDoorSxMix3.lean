/-
  The layer Sx, fifteenth part: the region whose order is open, with new variables and stores.
-/
import Derived.Test.YtbihckigennlhaaGreatDoorSxMix2
set_option linter.unusedVariables false
set_option linter.unusedSimpArgs false
set_option linter.unusedSectionVars false
namespace Go.Sx
open Go.RowKit
def Cl(K:ae→Store→Prop)(rg:ae)(σ:Store):Prop:=∃ rg' σ',(∀ i,lk rg' i=lk rg i)∧dk σ' σ∧K rg' σ'
theorem Cl.intro{K:ae→Store→Prop}{rg:ae}{σ:Store}(h:K rg σ):Cl K rg σ:=⟨rg,σ,fun _=>rfl,dk.refl _,h⟩
theorem Cl.closed(K:ae→Store→Prop):wV (Cl K):=fun _ _ _ _ hr hs ⟨rg',σ',h1,h2,h3⟩=>⟨rg',σ',fun i=>(h1 i).trans (hr i),h2.trans hs,h3⟩
def Qv(ops:Array Oper)(ah:List Nat)(a c:CD):Prop:=fM ops a.ix c.ix=false∧(fM ops c.ix a.ix=true∨jy ah a c=true∨xT ops 2 c.ix a.ix=true)
theorem NA{ops:Array Oper}{ah:List Nat}:∀ (l:List CD),vV ops ah l=true→l.Pairwise (Qv ops ah)
 |[],_=> .nil
 |a::l,h=>by
  simp only[vV,Z0,ZF,Zl,YV]at h
  exact .cons (fun c hc=>⟨(h.1.2 c hc).1,by
   rcases(h.1.2 c hc).2 with(k|k)|k
   ·exact .inl k
   ·exact .inr (.inl k)
   ·exact .inr (.inr k.2)⟩) (NA l h.2)
theorem KZ{ops:Array Oper}{p:Nat→Bool}(hd:∀ i,p i=true→∀ j,fM ops i j=true→p j=true):∀ (n i j:Nat),(∀ b,fM ops i b=true→p b=true)→xT ops n i j=true→p j=true
 |0,i,j,hi,h=>hi j h
 |n+1,i,j,hi,h=>by
  rw[xT,Zl]at h
  rcases h with h|h
  ·exact hi j h
  ·obtain⟨b,_,hb⟩:=Yg.1 h
   rw[Z0]at hb
   exact KZ hd n b j (fun c hc=>hd b (hi b hb.1) c hc) hb.2
theorem NB{ops:Array Oper}{ah:List Nat}:∀ (l:List CD),vV ops ah l=true→∀ x∈l,fM ops x.ix x.ix=false
 |[],_,x,hx=>by cases hx
 |a::l,h,x,hx=>by
  simp only[vV,Z0,YV]at h
  rcases ZV.1 hx with rfl|hx
  ·exact h.1.1
  ·exact NB l h.2 x hx
section
variable {P:Program}[Glob P]{M:Mem}{w0:Base}{σ:Store}{rg:ae}{cfg:Nat→Nat}{N:Nat}{ah:List Nat}
theorem G2{K K':ae→Store→Prop}(hk:∀ rg σ,K rg σ→K' rg σ):∀ (l:List CD) (rg:ae) (σ:Store),(∀ x∈l,fV x=true)→cD P cfg ah l K rg σ→cD P cfg ah l K' rg σ
 |[],rg,σ,_,h=>hk _ _ h
 |c::l,rg,σ,ho,h=>zO (ho c (by simp)) h fun y σ2 _ hv=>G2 hk l _ σ2 (fun x hx=>ho x (by simp[hx])) hv
theorem H2{l:List CD}{Q:Exit→ae→Store→Prop}(cfg:Nat→Nat)(Ψ:List CD→ae→Store→Prop)(h0:(∀ x∈l,fV x=true)→Ψ l rg σ)(aad:∀ rg σ,Ψ [] rg σ→Cl (Q .normal) rg σ)
  (Bk:∀ (A:List CD) (x:CD) (B:List CD) (rg:ae) (σ:Store),(∀ a∈A++x::B,fV a=true)→(∀ a∈A,jy ah a x=true)→Ψ (A++x::B) rg σ→
   ∃ rg' σ',(∀ i,lk rg' i=lk rg i)∧dk σ' σ∧di P cfg x.c (fun y σ2=>Ψ (A++B) (bM x.c.d y rg) σ2) (fun ch σ'=>Q (.panic ch) [] σ') rg' σ'):SW P N (.dr ah l) Q rg σ:=by
 intro c hc M w0 a w hI hR hN hD
 obtain⟨id,ops,cl,rfl,bJ,o5,hok,o4⟩:=dO hc
 obtain⟨hlen,A6⟩:=Az ops.toList cl bJ
 unfold BB at hok
 simp only[Z0,ZB]at hok
 obtain⟨⟨⟨⟨⟨hnd,o9⟩,XK⟩,vp⟩,XB⟩,LC⟩:=hok
 have aaE:=NB l LC
 have o9:=Z8 o9
 have EP:∀ x∈l,fV x=true:=ZF.1 vp
 have mG:=NA l LC
 have aH:∀ x∈l,x.ix<ops.size:=fun x hx=>by
  have:=(ZN.1 (o5 x hx)).1
  rw[hlen]at this
  simpa using this
 have h':=h0 EP
 refine Dz o4 ?_
 have main:∀ (fuel:Nat) (L:List CD) (listed:Array Bool) (a:Act) (w:World),listed.size=ops.size→L.length≤fuel→L.Sublist l→
   (∀ i,i<ops.size→(listed.getD i true=false↔∃ x∈L,x.ix=i))→(∀ i,listed.getD i false=true→∀ j,fM ops i j=true→listed.getD j false=true)→
   (∃ M2 bP σ2,M.le M2∧Inv P M2 w0 σ2 w∧bE M2 bP a∧a.tmps.size=N∧a.defers=Glob.df P∧Ψ L bP σ2)→
   wpAny P .any ops (gF P M w0 N Q) fuel listed a w:=by
  have fin:∀ (a:Act) (w:World),(∃ M2 bP σ2,M.le M2∧Inv P M2 w0 σ2 w∧bE M2 bP a∧a.tmps.size=N∧a.defers=Glob.df P∧Ψ [] bP σ2)→gF P M w0 N Q .normal a w:=by
   rintro a w ⟨M2,bP,σ2,g1,g2,g3,g4,g5,g6⟩
   obtain⟨dT,dv,k1,k2,k3⟩:=aad _ _ g6
   exact⟨M2,dT,dv,g1,g2.perm k2.2.symm,fun i=>by rw[k1];exact g3 i,g4,g5,k3⟩
  intro fuel
  induction fuel with
  |zero=>
   intro L listed a w hsz vd bO hL Er ep
   obtain rfl:L=[]:=List.length_eq_zero_iff.1 (by omega)
   refine⟨?_,fin a w ep⟩
   unfold Region.ready
   rw[Yv]
   intro i hi
   have cH:i<ops.size:=by simpa using hi
   have:listed.getD i true=true:=by
    cases mE:listed.getD i true with
    |true=>rfl
    |false=>obtain⟨x,hx,_⟩:=(hL i cH).1 mE;cases hx
   simp[this]
  |succ fuel ih=>
   intro L listed a w hsz vd bO hL Er ep
   have Em:∀ i,i<ops.size→listed.getD i false=listed.getD i true:=fun i hi=>by
    rw[Z2,Z2,ZQ (by omega)];rfl
   refine⟨fun hr=> ?_,fun i hi=> ?_⟩
   ·cases L with
    |nil=>exact fin a w ep
    |cons x L=>
     exfalso
     have hx:=bO.subset (ZU)
     have oa:=aH x hx
     have EY:=mG.sublist bO
     have:x.ix∈Region.ready .any ops listed:=by
      unfold Region.ready
      rw[YZ]
      refine⟨by simpa using oa,?_⟩
      have mE:listed.getD x.ix true=false:=(hL x.ix oa).2 ⟨x,by simp,rfl⟩
      simp only[mE,XP,Bool.true_and,ZQ oa,Zu,ZE]
      rw[ZM]
      intro e he
      cases jZ:Region.binds .any e with
      |false=>rfl
      |true=>
       have nU:e.on<ops.size:=by
        have h1:=ZM.1 XB _ (Yz oa)
        have h2:=ZM.1 h1 e he
        simpa[jZ]using h2
       have:listed.getD e.on true=true:=by
        cases hle:listed.getD e.on true with
        |true=>rfl
        |false=>
         exfalso
         obtain⟨y,hy,hyi⟩:=(hL e.on nU).1 hle
         have hE:fM ops x.ix y.ix=true:=by
          unfold fM
          rw[ZQ oa]
          simp only[X7]
          obtain⟨m,hm,hme⟩:=Array.mem_iff_getElem.1 he
          exact⟨m,hm,by rw[hme,jZ,hyi];simp⟩
         rcases ZV.1 hy with rfl|hy
         ·
          have:=(aaE y hx)
          rw[this]at hE;cases hE
         ·have:=(List.rel_of_pairwise_cons EY hy).1
          rw[this]at hE;cases hE
       simp[Em e.on nU,this]
     rw[hr]at this
     cases this
   ·unfold Region.ready at hi
    rw[YZ]at hi
    obtain⟨sV,nM⟩:=hi
    have hio:i<ops.size:=by simpa using sV
    simp only[Z0,YV,ZQ hio,Zu,ZE]at nM
    obtain⟨ph,vg⟩:=nM
    obtain⟨x,LY,rfl⟩:=(hL i hio).1 ph
    obtain⟨A,B,rfl⟩:=List.append_of_mem LY
    have hx:=bO.subset LY
    obtain⟨M2,bP,σ2,g1,g2,g3,g4,g5,g6⟩:=ep
    have EY:=mG.sublist bO
    have LH:∀ b,fM ops x.ix b=true→listed.getD b false=true:=fun b hb=>by
     unfold fM at hb
     rw[ZQ hio]at hb
     simp only[X7,Z0,beq_iff_eq]at hb
     obtain⟨m,hm,hbm,nU⟩:=hb
     have:=ZM.1 vg _ (Yz hm)
     rw[hbm,nU]at this
     simpa using this
    have hA:∀ a∈A,jy ah a x=true∧fV a=true:=by
     intro b hb
     refine⟨?_,EP b (bO.subset (by simp[hb]))⟩
     have hp:=(List.pairwise_append.1 EY).2.2 b hb x (by simp)
     rcases hp.2 with hE|hc|hR
     rotate_left 2
     ·exfalso
      have:=KZ (p:=fun i=>listed.getD i false) Er 2 x.ix b.ix LH hR
      have iW:=aH b (bO.subset (by simp[hb]))
      try simp only at this
      rw[Em _ iW,(hL b.ix iW).2 ⟨b,by simp[hb],rfl⟩]at this
      cases this
     ·exfalso
      unfold fM at hE
      rw[ZQ hio]at hE
      simp only[X7,Z0,beq_iff_eq]at hE
      obtain⟨m,hm,hbm,nU⟩:=hE
      have:=ZM.1 vg _ (Yz hm)
      rw[hbm,nU]at this
      have iW:=aH b (bO.subset (by simp[hb]))
      rw[Em _ iW,(hL b.ix iW).2 ⟨b,by simp[hb],rfl⟩]at this
      simp at this
     ·exact hc
    obtain⟨rgq,σq,Vy,Vz,hq⟩:=Bk A x B bP σ2 (fun b hb=>EP b (bO.subset hb)) (fun b hb=>(hA b hb).1) g6
    have nJ:oT P N ops ops[x.ix]=some x.c:=by
     have vb:x.ix<cl.length:=by rw[hlen];simpa using hio
     have:=A6 x.ix (by simpa using hio) vb
     have e:=o5 x hx
     rw[Z6 vb]at e
     have e:=Zf e
     rw[← e]
     simpa using this
    obtain⟨iZ,aar⟩:=xy nJ
    unfold wpOp
    simp only[ZQ hio]
    refine sD nJ hq (g2.perm Vz.2.symm) (fun i=>by rw[Vy];exact g3 i) ⟨?_,fun M3 ch dv w' hM hI' hk=>⟨M3,[],dv,g1.trans hM,hI',fun i=> .any _,g4,g5,hk⟩⟩
    rintro M3 y dv v w' hM hI' hy hv
    have aav:((A++x::B).map (·.ix)).Nodup:=hnd.sublist (bO.map _)
    refine ih (A++B) _ _ _ (by simp[hsz]) (by simp at vd ⊢;omega) (List.Sublist.trans (List.Sublist.append (List.Sublist.refl A) (List.sublist_cons_self x B)) bO) (fun j hj=> ?_) (fun i hi j gu=> ?_)
     ⟨M3,_,dv,g1.trans hM,hI',by rw[iZ];exact(g3.mono hM).put _ (fun t ht=>by rw[g4];exact aar t (iZ.trans ht)) hy,by rw[Act.size_put];exact g4,by rw[Act.xB];exact g5,hv⟩
    rotate_left
    ·have Lw:∀ k,listed.getD k false=true→(listed.setIfInBounds x.ix true).getD k false=true:=fun k hk=>by
      rw[Z2]at hk ⊢
      rw[Zz]
      split
      ·rename_i e;subst e;simp[hsz,hio]
      ·exact hk
     by_cases Bp:x.ix=i
     ·subst Bp;exact Lw j (LH j gu)
     ·refine Lw j (Er i ?_ j gu)
      rw[Z2,Zz,if_neg Bp]at hi
      rw[Z2];exact hi
    have nT:∀ z∈A++B,z.ix≠x.ix:=by
     intro z hz e
     have hp:((x::(A++B)).map (·.ix)).Nodup:=(((Yk (a:=x) (l₁:=A) (l₂:=B)).map (·.ix)).nodup_iff).1 aav
     rw[ZH,YF]at hp
     exact hp.1 (by rw[← e];exact YT hz)
    by_cases nO:x.ix=j
    ·subst nO
     have e:(listed.setIfInBounds x.ix true).getD x.ix true=true:=by
      rw[Z2,Zz];simp[hsz,hio]
     rw[e]
     exact⟨fun h=>(nomatch h),fun⟨z,hz,e⟩=>absurd e (nT z hz)⟩
    ·have e:(listed.setIfInBounds x.ix true).getD j true=listed.getD j true:=by
      rw[Z2,Zz,if_neg nO,Z2]
     rw[e,hL j hj]
     constructor
     ·rintro⟨z,hz,rfl⟩
      refine⟨z,?_,rfl⟩
      rcases Zm.1 hz with hz|hz
      ·exact Zy _ hz
      ·rcases ZV.1 hz with rfl|hz
       ·exact absurd rfl nO
       ·exact Zj _ hz
     ·rintro⟨z,hz,rfl⟩
      refine⟨z,?_,rfl⟩
      rcases Zm.1 hz with hz|hz
      ·exact Zy _ hz
      ·exact Zj _ (ZX _ hz)
 have XL:∀ i,i<ops.size→∃ x∈l,x.ix=i:=fun i hi=>by
  have:=ZF.1 XK i (by simpa using hi)
  obtain⟨x,hx,e⟩:=Yg.1 this
  exact⟨x,hx,ZL e⟩
 refine main ops.size l _ a _ (by simp) o9 (List.Sublist.refl _) (fun i hi=> ?_) (fun i hi=> ?_) ⟨M,rg,σ,Mem.le.refl _,hI.kq,hR,hN,hD,h'⟩
 rotate_left
 ·exfalso
  rw[Z2,Array.getElem?_replicate]at hi
  split at hi<;>cases hi
 have e:(Array.replicate ops.size false).getD i true=false:=by simp[hi]
 exact⟨fun _=>XL i hi,fun _=>e⟩
theorem H0{l:List CD}{Q:Exit→ae→Store→Prop}(cfg:Nat→Nat)(h:cD P cfg ah l (Q .normal) rg σ):SW P N (.dr ah l) Q rg σ:=
 H2 cfg (fun L rg σ=>cD P cfg ah L (Cl (Q .normal)) rg σ) (fun ho=>G2 (fun _ _=>Cl.intro) l rg σ ho h) (fun _ _ h=>h)
  fun A x B rg σ ho hA hv=>⟨rg,σ,fun _=>rfl,dk.refl _,Cv (ho x (by simp)) (AU (Cl.closed _) (ho x (by simp)) A B rg σ (fun a ha=>⟨hA a ha,ho a (by simp[ha])⟩) (fun b hb=>ho b (by simp[hb])) hv)⟩
theorem Af{s:SC}{Q:Exit→ae→Store→Prop}(h:SW P N s (fun e=>Cl (Q e)) rg σ):SW P N s Q rg σ:=
 fun c hc M w0 a w hI hR hN hD=>DA (h c hc M w0 a w hI hR hN hD) fun _ _ _ ⟨M2,bP,σ2,h1,h2,h3,h4,h5,dT,dv,k1,k2,k3⟩=>
  ⟨M2,dT,dv,h1,h2.perm k2.2.symm,fun i=>by rw[k1];exact h3 i,h4,h5,k3⟩
def bare(l:List CI):List CD:=l.map fun c=>⟨0,c,[]⟩
theorem zP{K:ae→Store→Prop}:∀ (l:List CI) (rg fj:ae),(∀ i,lk rg i=lk fj i)→(∀ c∈l,c.op.cls≤1∨(c.op.cls=4∧c.g=none))→cD P cfg [] (bare l) K rg σ→
  Ad P cfg (fun rg'=>K rg' σ) l fj σ
 |[],rg,fj,he,_,h=>⟨[],rfl,⟨rg,h,he⟩,fun i h=>absurd h (by simp)⟩
 |c::l,rg,fj,he,hc,h=>by
  have h1:c.op.cls≤1:=by
   rcases hc c (by simp)with h1|⟨h1,h2⟩
   ·exact h1
   ·exfalso
    have h:hU P cfg [] ⟨0,c,[]⟩ (fun x σ'=>cD P cfg [] (bare l) K (bM c.d x rg) σ') rg σ:=h
    unfold hU cO at h
    simp only[h1,h2]at h
    have:=h.1
    simp at this
  have ho:fV ⟨0,c,[]⟩=true:=by
   unfold fV
   have h2:Nat.ble c.op.cls 1=true:=Nat.ble_eq_true_of_le h1
   have h3:(Nat.ble c.op.cls 3 || isApp c.op)=true:=by rw[Nat.ble_eq_true_of_le (by omega)];rfl
   have h4:Nat.beq c.op.cls 2=false:=by rw[← Yt,Nat.beq_eq];omega
   simp only[h2,h3,h4];rfl
  obtain⟨x,hx,hv⟩:=uT (c:=⟨0,c,[]⟩) h1 h
  have hq:QV P cfg c rg σ x:=Cv (c:=⟨0,c,[]⟩) (E:=fun _ _=>False) ho (hv σ (fun _ _ _ _ _ _ h=>h) (fun y s=>y=x∧s=σ) ⟨rfl,rfl⟩)
  obtain⟨xs,g1,g2,g3⟩:=zP l _ (bM c.d x fj) (vL he c.d x) (fun c' h'=>hc c' (by simp[h'])) hx
  refine⟨x::xs,by simp[g1],g2,fun i hi cH=> ?_⟩
  cases i with
  |zero=>exact r4 (fun t _=>he t) hq
  |succ i=>simpa[db]using g3 i (by simpa using hi) (by simpa using cH)
theorem zQ{K:ae→Store→Prop}:∀ (l:List CI) (rg:ae),(∀ c∈l,c.op.cls≤1∨(c.op.cls=4∧c.g=none))→cD P cfg [] (bare l) K rg σ→∀ c∈l,c.op.cls≤1
 |[],_,_,_=>fun _ h=>by cases h
 |c::l,rg,hc,h=>by
  have h1:c.op.cls≤1:=by
   rcases hc c (by simp)with h1|⟨h1,h2⟩
   ·exact h1
   ·exfalso
    have h:hU P cfg [] ⟨0,c,[]⟩ (fun x σ'=>cD P cfg [] (bare l) K (bM c.d x rg) σ') rg σ:=h
    unfold hU cO at h
    simp only[h1,h2]at h
    have:=h.1
    simp at this
  obtain⟨x,hx,_⟩:=uT (c:=⟨0,c,[]⟩) h1 h
  intro c' iX
  rcases ZV.1 iX with rfl|iX
  ·exact h1
  ·exact zQ l _ (fun c h=>hc c (by simp[h])) hx c' iX
theorem QA{l:List CI}{Q:Exit→ae→Store→Prop}(cfg:Nat→Nat)(h:cD P cfg [] (bare l) (Cl (Q .normal)) rg σ):SW P N (.azZ l) Q rg σ:=
 Af (uD cfg fun hc=>⟨zP (K:=Cl (Q .normal)) l rg rg (fun _=>rfl) hc h,zQ l rg hc h⟩)
theorem QD{l:List CD}{Q:Exit→ae→Store→Prop}(cfg:Nat→Nat)(h:cD P cfg ah l (Cl (Q .normal)) rg σ):SW P N (.dr ah l) Q rg σ:=
 Af (H0 (Q:=fun e=>Cl (Q e)) cfg h)
end
inductive AC where
 |skip
 |cj (l:List CI)
 |azZ (l:List CI)
 |dr (ah:List Nat) (l:List CD)
 |seq (a b:AC)
 |cond (c:Operand) (t e:AC)
 |block (id:Nat) (b:AC)
 |loop (b:AC)
 |exit (id:Nat)
 |ret
 |scope (b:AC)
 |label (l:Nat)
 |goto (l:Nat)
 |keep (ks:List Nat) (a:AC)
 |stop (a:AC)
def AC.erase:AC→SC
 | .skip=> .skip
 | .cj l=> .cj l
 | .azZ l=> .azZ l
 | .dr ah l=> .dr ah l
 | .seq a b=> .seq a.erase b.erase
 | .cond c t e=> .cond c t.erase e.erase
 | .block id b=> .block id b.erase
 | .loop b=> .loop b.erase
 | .exit id=> .exit id
 | .ret=> .ret
 | .scope b=> .scope b.erase
 | .label l=> .label l
 | .goto l=> .goto l
 | .keep _ a=>a.erase
 | .stop a=>a.erase
def Stop(P:Program)[Glob P](N:Nat)(a:AC)(Q:Exit→ae→Store→Prop)(rg:ae)(σ:Store):Prop:=SW P N a.erase Q rg σ
def oD(P:Program)[Glob P](N:Nat)(cfg:Nat→Nat):AC→(Exit→ae→Store→Prop)→ae→Store→Prop
 | .skip,Q,rg,σ=>Q .normal rg σ
 | .cj l,Q,rg,σ=>oE P cfg l (Q .normal) (fun ch σ'=>Q (.panic ch) [] σ') rg σ
 | .azZ l,Q,rg,σ=>mX P cfg l (fun rg'=>Q .normal rg' σ) rg σ
 | .dr ah l,Q,rg,σ=>cD P cfg ah l (Q .normal) rg σ
 | .seq a b,Q,rg,σ=>oD P N cfg a (l7 (oD P N cfg b Q) Q) rg σ
 | .cond c t e,Q,rg,σ=>match ev rg c with
  | .v (.bool b)=>Gd b true (oD P N cfg t Q rg σ) (oD P N cfg e Q rg σ)
  |_=>False
 | .block id b,Q,rg,σ=>oD P N cfg b (oQ id Q) rg σ
 | .loop b,Q,rg,σ=>Stop P N (.loop b) Q rg σ
 | .exit id,Q,rg,σ=>Q (.exit id) rg σ
 | .ret,Q,rg,σ=>Q .ret rg σ
 | .scope b,Q,rg,σ=>Stop P N (.scope b) Q rg σ
 | .label l,Q,rg,σ=>Q .normal rg σ
 | .goto l,Q,rg,σ=>Q (.goto l) rg σ
 | .keep ks a,Q,rg,σ=>oD P N cfg a Q (eY ks rg) σ
 | .stop a,Q,rg,σ=>Stop P N a Q rg σ
theorem rI{P:Program}[Glob P]{N:Nat}(cfg:Nat→Nat):∀ (a:AC) (Q:Exit→ae→Store→Prop) (rg:ae) (σ:Store),oD P N cfg a Q rg σ→SW P N a.erase Q rg σ
 | .skip,Q,rg,σ,h=>H5 h
 | .cj l,Q,rg,σ,h=>QE cfg h
 | .azZ l,Q,rg,σ,h=>Qy cfg h
 | .dr ah l,Q,rg,σ,h=>H0 cfg h
 | .seq a b,Q,rg,σ,h=>H4 ((rI cfg a _ rg σ h).mono fun e rg' σ' he=>by
   cases e with
   |normal=>exact rI cfg b Q rg' σ' he
   |_=>exact he)
 | .cond c t e,Q,rg,σ,h=>by
  simp only[oD]at h
  split at h
  ·rename_i b hb
   exact HU hb (fun hb=>rI cfg t Q rg σ (h.l hb)) (fun hb=>rI cfg e Q rg σ (h.r hb))
  ·exact h.elim
 | .block id b,Q,rg,σ,h=>HT (rI cfg b _ rg σ h)
 | .loop b,Q,rg,σ,h=>h
 | .exit id,Q,rg,σ,h=>HV h
 | .ret,Q,rg,σ,h=>H3 h
 | .scope b,Q,rg,σ,h=>h
 | .label l,Q,rg,σ,h=>HX h
 | .goto l,Q,rg,σ,h=>HW h
 | .keep ks a,Q,rg,σ,h=>SW.eY ks (rI cfg a Q _ σ h)
 | .stop a,Q,rg,σ,h=>h
theorem Stop.run{P:Program}[Glob P]{N:Nat}(cfg:Nat→Nat){a:AC}{Q:Exit→ae→Store→Prop}{rg:ae}{σ:Store}(h:oD P N cfg a Q rg σ):Stop P N a Q rg σ:=rI cfg a Q rg σ h
theorem Stop.loop{P:Program}[Glob P]{N:Nat}{b:AC}{Q:Exit→ae→Store→Prop}{rg:ae}{σ:Store}(cfg:Nat→Nat)(I:Nat→ae→Store→Prop)(n:Nat)(h0:I n rg σ)
  (h:∀ n rg σ,I n rg σ→oD P N cfg b (l7 (fun rg' σ'=>∃ n',n'<n∧I n' rg' σ') Q) rg σ):Stop P N (.loop b) Q rg σ:=
 HZ I n h0 fun n rg σ hi=>rI cfg b _ rg σ (h n rg σ hi)
theorem Stop.mono{P:Program}[Glob P]{N:Nat}{a:AC}{Q Q':Exit→ae→Store→Prop}{rg:ae}{σ:Store}(h:Stop P N a Q rg σ)(hq:∀ e rg σ,Q e rg σ→Q' e rg σ):Stop P N a Q' rg σ:=SW.mono h hq
theorem stop_congr{P:Program}[Glob P]{N:Nat}{a:AC}{Q:Exit→ae→Store→Prop}{rg rg':ae}{σ σ':Store}(h:rg=rg')(k:σ=σ'):Stop P N a Q rg σ=Stop P N a Q rg' σ':=by rw[h,k]
attribute [congr] stop_congr
attribute [congr] callP_congr
attribute [congr] qcall_congr
structure WA(P:Program)[Glob P](N:Nat)(cfg:Nat→Nat)(a:AC)(Q:Exit→ae→Store→Prop)(rg:ae)(σ:Store):Prop where
 c:cfg=cfg
 h:SW P N a.erase Q rg σ
def gI:List Nat→ae→Option ae
 |[],_=>some []
 |k::ks,rg=>fo (lk rg k) fun x=>match gI ks rg with
  |some l=>some ((k,x)::l)
  |none=>none
theorem DQ:∀ {ks:List Nat} {rg l:ae},gI ks rg=some l→eY ks rg=l
 |[],_,_,h=>by cases h;rfl
 |k::ks,rg,l,h=>by
  have h:=wZ h
  split at h
  ·rename_i l' h';cases h;simp only[eY,DQ h']
  ·cases h
def DI(rg:ae):List Operand→Option (List AV)
 |[]=>some []
 |x::l=>fo (ev rg x) fun v=>match DI rg l with
  |some vs=>some (v::vs)
  |none=>none
theorem JZ{rg:ae}:∀ {l:List Operand} {vs:List AV},DI rg l=some vs→aU rg l=vs
 |[],_,h=>by cases h;rfl
 |x::l,vs,h=>by
  have h:=wZ h
  split at h
  ·rename_i l' h';cases h;simp only[aU,JZ h']
  ·cases h
def xp(rg:ae)(x:Operand):Option Bool:=match ev rg x with
 | .v (.bool b)=>some b
 |_=>none
theorem T3{rg:ae}{x:Operand}{b:Bool}(h:xp rg x=some b):ev rg x= .v (.bool b):=by
 unfold xp at h
 split at h
 ·rename_i e;cases h;exact e
 ·cases h
section
variable {P:Program}[Glob P]{N:Nat}{cfg:Nat→Nat}{Q:Exit→ae→Store→Prop}{K:ae→Store→Prop}{E:List PanicEntry→Store→Prop}{rg rg':ae}{σ σ':Store}{l:List CI}{d:Option Nat}{op:aw}{p:Prop}{v:AV}
theorem Ia{a b:AC}(h:WA P N cfg a (l7 (fun rg σ=>WA P N cfg b Q rg σ) Q) rg σ):WA P N cfg (.seq a b) Q rg σ:=
 ⟨rfl,H4 (h.h.mono fun e rg' σ' he=>by
  cases e with
  |normal=>exact he.h
  |_=>exact he)⟩
theorem R6(h:Q .normal rg σ):WA P N cfg .skip Q rg σ:=⟨rfl,H5 h⟩
theorem R5(h:Q .ret rg σ):WA P N cfg .ret Q rg σ:=⟨rfl,H3 h⟩
theorem R0{id:Nat}(h:Q (.exit id) rg σ):WA P N cfg (.exit id) Q rg σ:=⟨rfl,HV h⟩
theorem RY{x:Operand}{a b:AC}{c:Bool}(hx:xp rg x=some c)(h1:c=true→WA P N cfg a Q rg σ)(h2:c=false→WA P N cfg b Q rg σ):WA P N cfg (.cond x a b) Q rg σ:=⟨rfl,HU (T3 hx) (fun e=>(h1 e).h) (fun e=>(h2 e).h)⟩
theorem RX{id:Nat}{a:AC}(h:WA P N cfg a (oQ id Q) rg σ):WA P N cfg (.block id a) Q rg σ:=⟨rfl,HT h.h⟩
theorem H9{ks:List Nat}{a:AC}(hk:gI ks rg=some rg')(h:WA P N cfg a Q rg' σ):WA P N cfg (.keep ks a) Q rg σ:=⟨rfl,SW.eY ks (by rw[DQ hk];exact h.h)⟩
theorem R1{a:AC}(I:Nat→ae→Store→Prop)(n:Nat)(h0:I n rg σ)(h:∀ n rg σ,I n rg σ→WA P N cfg a (l7 (fun rg' σ'=>∃ n',n'<n∧I n' rg' σ') Q) rg σ):WA P N cfg (.loop a) Q rg σ:=
 ⟨rfl,HZ I n h0 fun n rg σ hi=>(h n rg σ hi).h⟩
theorem WA.mono{a:AC}{Q':Exit→ae→Store→Prop}(h:WA P N cfg a Q rg σ)(hq:∀ e rg σ,Q e rg σ→Q' e rg σ):WA P N cfg a Q' rg σ:=⟨rfl,h.h.mono hq⟩
theorem T0{id od:Nat}(e:Nat.beq od id=true)(h:Q .normal rg σ):oQ id Q (.exit od) rg σ:=by simp only[oQ];rw[if_pos (ZL e)];exact h
theorem TZ{id od:Nat}(e:Nat.beq od id=false)(h:Q (.exit od) rg σ):oQ id Q (.exit od) rg σ:=by
 simp only[oQ];rw[if_neg (fun k=>by subst k;simp[YJ]at e)];exact h
def Fin(fm:Store)(r:AV)(x:AV)(σ:Store):Prop:=Wk x r∧Sub fm σ
theorem Fin.intro{fm:Store}{r x:AV}(h:Sub fm σ)(e:x=r):Fin fm r x σ:=⟨Wk.mS e,h⟩
def sj(x:AV):Option (List AV):=match x.cells? with
 |some l=>jB l some
 |none=>none
theorem Du{x:AV}{l:List AV}(h:sj x=some l):x.cells? =some l:=by
 unfold sj at h
 split at h
 ·rename_i e;have h:=iT h;cases h;exact e
 ·cases h
variable {ah cf:List Nat}{ix:Nat}{ld:List CD}
def Ns(ah cf:List Nat)(rg:ae):aw→Bool
 | .load a n x=>lN ah cf rg (.load a n x)
 | .store n x y=>rD ah cf rg (.store n x y)
 | .box .. | .alloc .. | .append .. | .exts .. | .panic .. =>false
 |_=>true
theorem JL{cfg:Nat→Nat}(hc:op.cls=0)(h:cR cfg d rg σ op=some (p,v,σ')):σ'=σ:=by
 cases op
 case load=>cases hc
 case store=>cases hc
 case alloc=>cases hc
 case box=>cases hc
 case append=>cases hc
 case exts=>cases hc
 case panic=>cases hc
 case len s x=>cases s<;>(simp only[cR]at h;repeat' split at h)<;>cases h<;>rfl
 all_goals simp only[cR,reduceCtorEq]at h
 all_goals(repeat' split at h)
 all_goals first
  |(cases h;done)
  |(cases h;rfl)
  |(have:=wZ h;cases this;rfl)
  |(have:=iT h;cases this;rfl)
  |(have:=sB h;cases this;rfl)
  |(have h2:=(po h).2;(repeat' split at h2)<;>first|(cases h2;done)|(cases h2;rfl)|(have:=wZ h2;cases this;rfl)|(have:=iT h2;cases this;rfl))
theorem Vp{K:AV→Prop}(hc:op.cls=0)(h:cR cfg d rg σ op=some (p,v,σ'))(hp:p)(k:K v):aG P cfg d rg σ K op:=by
 have hs:=AE (P:=P) (K:=fun x _=>K x) (E:=fun _ _=>False) h hp k
 cases op with
 |aZ t ag parts=>
  simp only[aG]
  simp only[cR]at h
  split at h
  ·rename_i rows e
   rw[e]
   split at h
   ·rename_i e2;have:=sB h;cases this;exact⟨hp,by simp only[e2];exact k⟩
   ·rename_i e2;have:=sB h;cases this;exact⟨hp,by simp only[e2];exact k⟩
   ·cases h
  ·cases h
 |len s x=>
  cases s with
  |true=>exact hs
  |false=>
   simp only[aG]
   simp only[cR]at h
   split at h
   ·rename_i e;rw[e];cases h;exact k
   ·rename_i e;rw[e];cases h;exact k
   ·rename_i e;rw[e];cases h;exact k
   ·rename_i e;rw[e];cases h;exact k
   ·cases h
 |call f args=>cases h
 |dA f args=>cases h
 |cp op ty ti args=>cases h
 |exts op ty ti args=>cases hc
 |panic x=>cases hc
 |box t x=>cases hc
 |alloc t x=>cases hc
 |store n t x=>cases hc
 |append t n k z x y=>cases hc
 |load a n x=>cases hc
 |_=>exact hs
end
section
variable {P:Program}[Glob P]{cfg:Nat→Nat}{K:ae→Store→Prop}{E:List PanicEntry→Store→Prop}{rg:ae}{σ:Store}{l:List CI}{d:Option Nat}{op:aw}{ah cf:List Nat}{ix:Nat}{ld:List CD}
end
theorem Pure.run{P:Program}[Glob P][jO P]{f:FuncId}{fn:Func}{fc:FC}{as:List AV}{r:AV}{a:AC}(cfg:Nat→Nat)(hf:P.funcs[f]? =some fn)(hc:cm P fn=some fc)(ha:fc.code=a.erase)(hlen:as.length≤fc.N)
  (h:∀ σ,WA P fc.N cfg a (lW fc.res r σ) (jw 0 as) σ):Pure P f as r:=
 Pure.intro hf hc hlen fun σ=>by rw[ha];exact(h σ).h
theorem Spec.run{P:Program}[Glob P][jO P]{f:FuncId}{fn:Func}{fc:FC}{as:List AV}{σ:Store}{Q:dj→Store→Prop}{a:AC}(cfg:Nat→Nat)(hf:P.funcs[f]? =some fn)(hc:cm P fn=some fc)(ha:fc.code=a.erase)(hlen:as.length≤fc.N)
  (h:WA P fc.N cfg a (kQ fc.res Q) (jw 0 as) σ):Spec P f as σ Q:=
 Spec.intro hf hc hlen (by rw[ha];exact h.h)
def HJ(I:Nat→ae→Store→Prop)(n:Nat)(ks:List Nat)(rg:ae)(σ:Store):Prop:=∃ n' rg',n'<n∧gI ks rg=some rg'∧I n' rg' σ
section
variable {P:Program}[Glob P]{N:Nat}{cfg:Nat→Nat}{Q:Exit→ae→Store→Prop}{K:ae→Store→Prop}{E:List PanicEntry→Store→Prop}{rg rg':ae}{σ σ':Store}{l:List CI}{d:Nat}{op:aw}{p:Prop}{v:AV}
variable {ah cf:List Nat}{ix:Nat}{ld:List CD}
theorem HJ.intro{I:Nat→ae→Store→Prop}{n:Nat}{ks:List Nat}(hk:gI ks rg=some rg')(h:∃ n',n'<n∧I n' rg' σ):HJ I n ks rg σ:=h.elim fun n' h=>⟨n',rg',h.1,hk,h.2⟩
def uY(x:AV):Option (FuncId×Array Value×Array Value):=match x with
 | .v (.func (.func f) a c)=>some (f,a,c)
 |_=>none
theorem AR{x:AV}{f:FuncId}{a c:Array Value}(h:uY x=some (f,a,c)):x= .v (.func (.func f) a c):=by
 unfold uY at h
 split at h
 ·cases h;rfl
 ·cases h
def lX(x:AV):Option (Nat×List (List AV)):=match x with
 | .sl _ e rows=>some (e,rows)
 | .own e _ _ _ _ rows=>some (e,rows)
 |_=>none
theorem yX{x:AV}{e:Nat}{rows:List (List AV)}(h:lX x=some (e,rows)):(∃ nn,x= .sl nn e rows)∨∃ t b u c,x= .own e t b u c rows:=by
 unfold lX at h
 split at h
 ·cases h;exact .inl ⟨_,rfl⟩
 ·cases h;exact .inr ⟨_,_,_,_,rfl⟩
 ·cases h
def ic(x:AV):Option Int:=match x with
 | .v (.int _ n)=>some n
 |_=>none
theorem qS{x:AV}{n:Int}(h:ic x=some n):∃ q,x= .v (.int q n):=by
 unfold ic at h
 split at h
 ·cases h;exact⟨_,rfl⟩
 ·cases h
end
theorem Fin.wk{fm σ:Store}{r x:AV}(h:Sub fm σ)(w:Wk x r):Fin fm r x σ:=⟨w,h⟩
theorem bt{p:Prop}[Decidable p](h:p):AV.v (.bool true)=AV.v (.bool (decide p)):=by rw[Zi h]
theorem bf{p:Prop}[Decidable p](h:¬p):AV.v (.bool false)=AV.v (.bool (decide p)):=by rw[Zp h]
end Go.Sx
