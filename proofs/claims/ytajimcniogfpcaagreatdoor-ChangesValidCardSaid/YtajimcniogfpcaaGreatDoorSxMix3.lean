/-
  The layer Sx, fifteenth part: the region whose order is open, with new variables and stores.
-/
import Derived.Test.YtajimcniogfpcaaGreatDoorSxMix2
set_option linter.unusedVariables false
set_option linter.unusedSimpArgs false
set_option linter.unusedSectionVars false
namespace Go.Sx
open Go.RowKit
def Cl(K:af→Store→Prop)(rg:af)(σ:Store):Prop:=∃ ak σ',(∀ i,lk ak i=lk rg i)∧cz σ' σ∧K ak σ'
theorem Cl.intro{K:af→Store→Prop}{rg:af}{σ:Store}(h:K rg σ):Cl K rg σ:=⟨rg,σ,fun _=>rfl,cz.refl _,h⟩
theorem Cl.closed(K:af→Store→Prop):tC (Cl K):=fun _ _ _ _ hr hs ⟨ak,σ',h1,h2,h3⟩=>⟨ak,σ',fun i=>(h1 i).trans (hr i),h2.trans hs,h3⟩
def WR(ops:Array Oper)(ah:List Nat)(a c:CD):Prop:=iq ops a.ix c.ix=false∧(iq ops c.ix a.ix=true∨jO ah a c=true∨B0 ops 2 c.ix a.ix=true)
theorem TG{ops:Array Oper}{ah:List Nat}:∀ (l:List CD),Aj ops ah l=true→l.Pairwise (WR ops ah)
 |[],_=> .nil
 |a::l,h=>by
  simp only[Aj,Z6,ZB,YM,YK]at h
  exact .cons (fun c hc=>⟨(h.1.2 c hc).1,by
   grind⟩) (TG l h.2)
theorem Qr{ops:Array Oper}{p:Nat→Bool}(hd:∀ i,p i=true→∀ j,iq ops i j=true→p j=true):∀ (n i j:Nat),(∀ b,iq ops i b=true→p b=true)→B0 ops n i j=true→p j=true
 |0,i,j,hi,h=>hi j h
 |n+1,i,j,hi,h=>by
  rw[B0,YM]at h
  rcases h with h|h
  ·grind
  ·obtain⟨b,_,hb⟩:=Ym.1 h
   rw[Z6]at hb
   exact Qr hd n b j (fun c hc=>hd b (hi b hb.1) c hc) hb.2
theorem TH{ops:Array Oper}{ah:List Nat}:∀ (l:List CD),Aj ops ah l=true→∀ x∈l,iq ops x.ix x.ix=false
 |[],_,x,hx=>by cases hx
 |a::l,h,x,hx=>by
  simp only[Aj,Z6,YK]at h
  rcases ZT.1 hx with rfl|hx
  ·grind
  ·exact TH l h.2 x hx
section
variable {P:Program}[Glob P]{M:Mem}{w0:Base}{σ:Store}{rg:af}{cfg:Nat→Nat}{N:Nat}{ah:List Nat}
theorem M6{K K':af→Store→Prop}(hk:∀ rg σ,K rg σ→K' rg σ):∀ (l:List CD) (rg:af) (σ:Store),(∀ x∈l,fL x=true)→bG P cfg ah l K rg σ→bG P cfg ah l K' rg σ
 |[],rg,σ,_,h=>hk _ _ h
 |c::l,rg,σ,ho,h=>AJ (ho c (by simp)) h fun y aC _ hv=>M6 hk l _ aC (fun x hx=>ho x (by simp[hx])) hv
theorem HW{l:List CD}{Q:Exit→af→Store→Prop}(cfg:Nat→Nat)(Ψ:List CD→af→Store→Prop)(h0:(∀ x∈l,fL x=true)→Ψ l rg σ)(aeI:∀ rg σ,Ψ [] rg σ→Cl (Q .normal) rg σ)
  (ae6:∀ (A:List CD) (x:CD) (B:List CD) (rg:af) (σ:Store),(∀ a∈A++x::B,fL a=true)→(∀ a∈A,jO ah a x=true)→Ψ (A++x::B) rg σ→
   ∃ ak σ',(∀ i,lk ak i=lk rg i)∧cz σ' σ∧bY P cfg x.c (fun y aC=>Ψ (A++B) (bj x.c.d y rg) aC) (fun ch σ'=>Q (.panic ch) [] σ') ak σ'):SW P N (.eE ah l) Q rg σ:=by
 intro c hc M w0 a w hI hR hN hD
 obtain⟨id,ops,cl,rfl,bE,zK,bM,uH⟩:=fU hc
 obtain⟨hlen,ER⟩:=D3 ops.toList cl bE
 unfold Fz at bM
 simp only[Z6,ZN,Yl]at bM
 obtain⟨⟨⟨⟨⟨hnd,rU⟩,aeD⟩,xk⟩,aey⟩,QU⟩:=bM
 have ae2:=TH l QU
 have rU:=ZR rU
 have Kx:∀ x∈l,fL x=true:=ZB.1 xk
 have pe:=TG l QU
 have ar:∀ x∈l,x.ix<ops.size:=fun x hx=>by
  have:=(ZK.1 (zK x hx)).1
  rw[hlen]at this
  simpa using this
 have h':=h0 Kx
 refine IL uH ?_
 have main:∀ (fuel:Nat) (L:List CD) (listed:Array Bool) (a:Act) (w:World),listed.size=ops.size→L.length≤fuel→L.Sublist l→
   (∀ i,i<ops.size→(listed.getD i true=false↔∃ x∈L,x.ix=i))→(∀ i,listed.getD i false=true→∀ j,iq ops i j=true→listed.getD j false=true)→
   (∃ M2 bJ aC,M.le M2∧Inv P M2 w0 aC w∧ct M2 bJ a∧a.tmps.size=N∧a.defers=Glob.df P∧Ψ L bJ aC)→
   wpAny P .any ops (jQ P M w0 N Q) fuel listed a w:=by
  have fin:∀ (a:Act) (w:World),(∃ M2 bJ aC,M.le M2∧Inv P M2 w0 aC w∧ct M2 bJ a∧a.tmps.size=N∧a.defers=Glob.df P∧Ψ [] bJ aC)→jQ P M w0 N Q .normal a w:=by
   rintro a w ⟨M2,bJ,aC,g1,g2,g3,g4,g5,g6⟩
   obtain⟨eg,dP,k1,k2,k3⟩:=aeI _ _ g6
   exact⟨M2,eg,dP,g1,g2.perm k2.2.symm,fun i=>by rw[k1];exact g3 i,g4,g5,k3⟩
  intro fuel
  induction fuel with
  |zero=>
   intro L listed a w aY zH j0 hL jz eU
   obtain rfl:L=[]:=X3.1 (by omega)
   refine⟨?_,fin a w eU⟩
   unfold Region.ready
   rw[Yb]
   intro i hi
   have cK:i<ops.size:=by simpa using hi
   have:listed.getD i true=true:=by
    cases pb:listed.getD i true with
    |true=>rfl
    |false=>obtain⟨x,hx,_⟩:=(hL i cK).1 pb;cases hx
   simp[this]
  |succ fuel ih=>
   intro L listed a w aY zH j0 hL jz eU
   have JV:∀ i,i<ops.size→listed.getD i false=listed.getD i true:=fun i hi=>by
    rw[ZP,ZP,Zy (by omega)];rfl
   refine⟨fun hr=> ?_,fun i hi=> ?_⟩
   ·cases L with
    |nil=>exact fin a w eU
    |cons x L=>
     exfalso
     have hx:=j0.subset (ZC)
     have dp:=ar x hx
     have KD:=pe.sublist j0
     have:x.ix∈Region.ready .any ops listed:=by
      unfold Region.ready
      rw[Y5]
      refine⟨by simpa using dp,?_⟩
      have pb:listed.getD x.ix true=false:=(hL x.ix dp).2 ⟨x,by simp,rfl⟩
      simp only[pb,Xl,Bool.true_and,Zy dp,ZD,Zk]
      rw[Zu]
      intro e he
      cases lS:Region.binds .any e with
      |false=>rfl
      |true=>
       have qs:e.on<ops.size:=by
        have h1:=Zu.1 aey _ (X1 dp)
        have h2:=Zu.1 h1 e he
        simpa[lS]using h2
       have:listed.getD e.on true=true:=by
        cases hle:listed.getD e.on true with
        |true=>rfl
        |false=>
         exfalso
         obtain⟨y,hy,KY⟩:=(hL e.on qs).1 hle
         have hE:iq ops x.ix y.ix=true:=by
          unfold iq
          rw[Zy dp]
          simp only[Xz,Xq]
          obtain⟨m,hm,hme⟩:=Array.mem_iff_getElem.1 he
          exact⟨m,hm,by rw[hme,lS,KY];simp⟩
         rcases ZT.1 hy with rfl|hy
         ·
          have:=(ae2 y hx)
          rw[this]at hE;cases hE
         ·have:=(List.rel_of_pairwise_cons KD hy).1
          rw[this]at hE;cases hE
       simp[JV e.on qs,this]
     rw[hr]at this
     cases this
   ·unfold Region.ready at hi
    rw[Y5]at hi
    obtain⟨rR,kH⟩:=hi
    have gn:i<ops.size:=by simpa using rR
    simp only[Z6,YK,Zy gn,ZD,Zk]at kH
    obtain⟨iI,zI⟩:=kH
    obtain⟨x,Rg,rfl⟩:=(hL i gn).1 iI
    obtain⟨A,B,rfl⟩:=XP Rg
    have hx:=j0.subset Rg
    obtain⟨M2,bJ,aC,g1,g2,g3,g4,g5,g6⟩:=eU
    have KD:=pe.sublist j0
    have Q0:∀ b,iq ops x.ix b=true→listed.getD b false=true:=fun b hb=>by
     unfold iq at hb
     rw[Zy gn]at hb
     simp only[Xz,Xq,Z6,beq_iff_eq]at hb
     obtain⟨m,hm,uC,qs⟩:=hb
     have:=Zu.1 zI _ (X1 hm)
     rw[uC,qs]at this
     simpa using this
    have hA:∀ a∈A,jO ah a x=true∧fL a=true:=by
     intro b hb
     refine⟨?_,Kx b (j0.subset (by simp[hb]))⟩
     have hp:=(Xo.1 KD).2.2 b hb x (by simp)
     rcases hp.2 with hE|hc|hR
     rotate_left 2
     ·exfalso
      have:=Qr (p:=fun i=>listed.getD i false) jz 2 x.ix b.ix Q0 hR
      have mP:=ar b (j0.subset (by simp[hb]))
      try simp only at this
      rw[JV _ mP,(hL b.ix mP).2 ⟨b,by simp[hb],rfl⟩]at this
      cases this
     ·exfalso
      unfold iq at hE
      rw[Zy gn]at hE
      simp only[Xz,Xq,Z6,beq_iff_eq]at hE
      obtain⟨m,hm,uC,qs⟩:=hE
      have:=Zu.1 zI _ (X1 hm)
      rw[uC,qs]at this
      have mP:=ar b (j0.subset (by simp[hb]))
      rw[JV _ mP,(hL b.ix mP).2 ⟨b,by simp[hb],rfl⟩]at this
      simp at this
     ·exact hc
    obtain⟨rgq,σq,p8,p9,hq⟩:=ae6 A x B bJ aC (fun b hb=>Kx b (j0.subset hb)) (fun b hb=>(hA b hb).1) g6
    have nO:rC P N ops ops[x.ix]=some x.c:=by
     have Qw:x.ix<cl.length:=by rw[hlen];simpa using gn
     have:=ER x.ix (by simpa using gn) Qw
     have e:=zK x hx
     rw[ZY Qw]at e
     have e:=YA e
     rw[← e]
     simpa using this
    obtain⟨kG,aeU⟩:=Bn nO
    unfold wpOp
    simp only[Zy gn]
    refine wU nO hq (g2.perm p9.2.symm) (fun i=>by rw[p8];exact g3 i) ⟨?_,fun M3 ch dP w' hM bw hk=>⟨M3,[],dP,g1.trans hM,bw,fun i=> .any _,g4,g5,hk⟩⟩
    rintro M3 y dP v w' hM bw hy hv
    have aeW:((A++x::B).map (·.ix)).Nodup:=hnd.sublist (j0.map _)
    refine ih (A++B) _ _ _ (by simp[aY]) (by simp at zH ⊢;omega) (List.Sublist.trans (List.Sublist.append (List.Sublist.refl A) (List.sublist_cons_self x B)) j0) (fun j hj=> ?_) (fun i hi j gZ=> ?_)
     ⟨M3,_,dP,g1.trans hM,bw,by rw[kG];exact(g3.mono hM).put _ (fun t ht=>by rw[g4];exact aeU t (kG.trans ht)) hy,by rw[Act.size_put];exact g4,by rw[Act.Bt];exact g5,hv⟩
    rotate_left
    ·have QS:∀ k,listed.getD k false=true→(listed.setIfInBounds x.ix true).getD k false=true:=fun k hk=>by
      rw[ZP]at hk ⊢
      rw[Zb]
      split
      ·rename_i e;subst e;simp[aY,gn]
      ·exact hk
     by_cases zU:x.ix=i
     ·subst zU;exact QS j (Q0 j gZ)
     ·refine QS j (jz i ?_ j gZ)
      rw[ZP,Zb,Z5 zU]at hi
      rw[ZP];exact hi
    have kJ:∀ z∈A++B,z.ix≠x.ix:=by
     intro z hz e
     have hp:((x::(A++B)).map (·.ix)).Nodup:=(((List.perm_middle (a:=x) (l₁:=A) (l₂:=B)).map (·.ix)).nodup_iff).1 aeW
     rw[ZE,YV]at hp
     exact hp.1 (by rw[← e];exact YE hz)
    by_cases iV:x.ix=j
    ·subst iV
     have e:(listed.setIfInBounds x.ix true).getD x.ix true=true:=by
      rw[ZP,Zb];simp[aY,gn]
     rw[e]
     exact⟨fun h=>(nomatch h),fun⟨z,hz,e⟩=>absurd e (kJ z hz)⟩
    ·have e:(listed.setIfInBounds x.ix true).getD j true=listed.getD j true:=by
      rw[ZP,Zb,Z5 iV,ZP]
     rw[e,hL j hj]
     constructor
     ·rintro⟨z,hz,rfl⟩
      refine⟨z,?_,rfl⟩
      rcases ZJ.1 hz with hz|hz
      ·exact ZI _ hz
      ·rcases ZT.1 hz with rfl|hz
       ·exact absurd rfl iV
       ·exact Zp _ hz
     ·rintro⟨z,hz,rfl⟩
      refine⟨z,?_,rfl⟩
      rcases ZJ.1 hz with hz|hz
      ·exact ZI _ hz
      ·exact Zp _ (ZO _ hz)
 have aeE:∀ i,i<ops.size→∃ x∈l,x.ix=i:=fun i hi=>by
  have:=ZB.1 aeD i (by simpa using hi)
  obtain⟨x,hx,e⟩:=Ym.1 this
  exact⟨x,hx,Z2 e⟩
 refine main ops.size l _ a _ (by simp) rU (List.Sublist.refl _) (fun i hi=> ?_) (fun i hi=> ?_) ⟨M,rg,σ,Mem.le.refl _,hI.fG,hR,hN,hD,h'⟩
 rotate_left
 ·exfalso
  rw[ZP,Array.getElem?_replicate]at hi
  split at hi<;>cases hi
 have e:(Array.replicate ops.size false).getD i true=false:=by simp[hi]
 exact⟨fun _=>aeE i hi,fun _=>e⟩
theorem HV{l:List CD}{Q:Exit→af→Store→Prop}(cfg:Nat→Nat)(h:bG P cfg ah l (Q .normal) rg σ):SW P N (.eE ah l) Q rg σ:=
 HW cfg (fun L rg σ=>bG P cfg ah L (Cl (Q .normal)) rg σ) (fun ho=>M6 (fun _ _=>Cl.intro) l rg σ ho h) (fun _ _ h=>h)
  fun A x B rg σ ho hA hv=>⟨rg,σ,fun _=>rfl,cz.refl _,GX (ho x (by simp)) (Eu (Cl.closed _) (ho x (by simp)) A B rg σ (fun a ha=>⟨hA a ha,ho a (by simp[ha])⟩) (fun b hb=>ho b (by simp[hb])) hv)⟩
theorem A5{s:SC}{Q:Exit→af→Store→Prop}(h:SW P N s (fun e=>Cl (Q e)) rg σ):SW P N s Q rg σ:=
 fun c hc M w0 a w hI hR hN hD=>Bp (h c hc M w0 a w hI hR hN hD) fun _ _ _ ⟨M2,bJ,aC,h1,h2,h3,h4,h5,eg,dP,k1,k2,k3⟩=>
  ⟨M2,eg,dP,h1,h2.perm k2.2.symm,fun i=>by rw[k1];exact h3 i,h4,h5,k3⟩
def bare(l:List CI):List CD:=l.map fun c=>⟨0,c,[]⟩
theorem AK{K:af→Store→Prop}:∀ (l:List CI) (rg ef:af),(∀ i,lk rg i=lk ef i)→(∀ c∈l,c.op.cls≤1∨(c.op.cls=4∧c.g=none))→bG P cfg [] (bare l) K rg σ→
  DE P cfg (fun ak=>K ak σ) l ef σ
 |[],rg,ef,he,_,h=>⟨[],rfl,⟨rg,h,he⟩,fun i h=>absurd h (by simp)⟩
 |c::l,rg,ef,he,hc,h=>by
  have h1:c.op.cls≤1:=by
   rcases hc c (by simp)with h1|⟨h1,h2⟩
   ·exact h1
   ·have h:cm P cfg [] ⟨0,c,[]⟩ (fun x σ'=>bG P cfg [] (bare l) K (bj c.d x rg) σ') rg σ:=h
    unfold cm bQ at h
    grind
  have ho:fL ⟨0,c,[]⟩=true:=by
   unfold fL
   have h2:Nat.ble c.op.cls 1=true:=WZ h1
   have h3:(Nat.ble c.op.cls 3 || isApp c.op)=true:=by rw[WZ (by omega)];rfl
   have h4:Nat.beq c.op.cls 2=false:=by rw[← X6,Nat.beq_eq];omega
   grind
  obtain⟨x,hx,hv⟩:=zb (c:=⟨0,c,[]⟩) h1 h
  have hq:QV P cfg c rg σ x:=GX (c:=⟨0,c,[]⟩) (E:=fun _ _=>False) ho (hv σ (fun _ _ _ _ _ _ h=>h) (fun y s=>y=x∧s=σ) ⟨rfl,rfl⟩)
  obtain⟨xs,g1,g2,g3⟩:=AK l _ (bj c.d x ef) (sk he c.d x) (fun c' h'=>hc c' (by simp[h'])) hx
  refine⟨x::xs,by simp[g1],g2,fun i hi cK=> ?_⟩
  cases i with
  |zero=>exact wj (fun t _=>he t) hq
  |succ i=>simpa[dH]using g3 i (by grind) (by grind)
theorem AL{K:af→Store→Prop}:∀ (l:List CI) (rg:af),(∀ c∈l,c.op.cls≤1∨(c.op.cls=4∧c.g=none))→bG P cfg [] (bare l) K rg σ→∀ c∈l,c.op.cls≤1
 |[],_,_,_=>fun _ h=>by cases h
 |c::l,rg,hc,h=>by
  have h1:c.op.cls≤1:=by
   rcases hc c (by simp)with h1|⟨h1,h2⟩
   ·exact h1
   ·have h:cm P cfg [] ⟨0,c,[]⟩ (fun x σ'=>bG P cfg [] (bare l) K (bj c.d x rg) σ') rg σ:=h
    unfold cm bQ at h
    grind
  obtain⟨x,hx,_⟩:=zb (c:=⟨0,c,[]⟩) h1 h
  intro c' gU
  rcases ZT.1 gU with rfl|gU
  ·exact h1
  ·exact AL l _ (fun c h=>hc c (by simp[h])) hx c' gU
theorem HG{l:List CI}{Q:Exit→af→Store→Prop}(cfg:Nat→Nat)(h:bG P cfg [] (bare l) (Cl (Q .normal)) rg σ):SW P N (.dF l) Q rg σ:=
 A5 (yH cfg fun hc=>⟨AK (K:=Cl (Q .normal)) l rg rg (fun _=>rfl) hc h,AL l rg hc h⟩)
theorem NH{l:List CD}{Q:Exit→af→Store→Prop}(cfg:Nat→Nat)(h:bG P cfg ah l (Cl (Q .normal)) rg σ):SW P N (.eE ah l) Q rg σ:=
 A5 (HV (Q:=fun e=>Cl (Q e)) cfg h)
end
inductive AC where
 |skip
 |ck (l:List CI)
 |dF (l:List CI)
 |eE (ah:List Nat) (l:List CD)
 |seq (a b:AC)
 |cond (c:Operand) (t e:AC)
 |block (id:Nat) (b:AC)
 |loop (b:AC)
 |exit (id:Nat)
 |ret
 |scope (b:AC)
 |label (l:Nat)
 |goto (l:Nat)
 |aQ (ks:List Nat) (a:AC)
 |stop (a:AC)
def AC.erase:AC→SC
 | .skip=> .skip
 | .ck l=> .ck l
 | .dF l=> .dF l
 | .eE ah l=> .eE ah l
 | .seq a b=> .seq a.erase b.erase
 | .cond c t e=> .cond c t.erase e.erase
 | .block id b=> .block id b.erase
 | .loop b=> .loop b.erase
 | .exit id=> .exit id
 | .ret=> .ret
 | .scope b=> .scope b.erase
 | .label l=> .label l
 | .goto l=> .goto l
 | .aQ _ a=>a.erase
 | .stop a=>a.erase
def Stop(P:Program)[Glob P](N:Nat)(a:AC)(Q:Exit→af→Store→Prop)(rg:af)(σ:Store):Prop:=SW P N a.erase Q rg σ
def oC(P:Program)[Glob P](N:Nat)(cfg:Nat→Nat):AC→(Exit→af→Store→Prop)→af→Store→Prop
 | .skip,Q,rg,σ=>Q .normal rg σ
 | .ck l,Q,rg,σ=>fu P cfg l (Q .normal) (fun ch σ'=>Q (.panic ch) [] σ') rg σ
 | .dF l,Q,rg,σ=>pM P cfg l (fun ak=>Q .normal ak σ) rg σ
 | .eE ah l,Q,rg,σ=>bG P cfg ah l (Q .normal) rg σ
 | .seq a b,Q,rg,σ=>oC P N cfg a (mr (oC P N cfg b Q) Q) rg σ
 | .cond c t e,Q,rg,σ=>match ev rg c with
  | .v (.bool b)=>Gd b true (oC P N cfg t Q rg σ) (oC P N cfg e Q rg σ)
  |_=>False
 | .block id b,Q,rg,σ=>oC P N cfg b (mH id Q) rg σ
 | .loop b,Q,rg,σ=>Stop P N (.loop b) Q rg σ
 | .exit id,Q,rg,σ=>Q (.exit id) rg σ
 | .ret,Q,rg,σ=>Q .ret rg σ
 | .scope b,Q,rg,σ=>Stop P N (.scope b) Q rg σ
 | .label l,Q,rg,σ=>Q .normal rg σ
 | .goto l,Q,rg,σ=>Q (.goto l) rg σ
 | .aQ ks a,Q,rg,σ=>oC P N cfg a Q (eR ks rg) σ
 | .stop a,Q,rg,σ=>Stop P N a Q rg σ
theorem qV{P:Program}[Glob P]{N:Nat}(cfg:Nat→Nat):∀ (a:AC) (Q:Exit→af→Store→Prop) (rg:af) (σ:Store),oC P N cfg a Q rg σ→SW P N a.erase Q rg σ
 | .skip,Q,rg,σ,h=>H6 h
 | .ck l,Q,rg,σ,h=>HX cfg h
 | .dF l,Q,rg,σ,h=>WT cfg h
 | .eE ah l,Q,rg,σ,h=>HV cfg h
 | .seq a b,Q,rg,σ,h=>A6 ((qV cfg a _ rg σ h).mono fun e ak σ' he=>by
   cases e with
   |normal=>exact qV cfg b Q ak σ' he
   |_=>exact he)
 | .cond c t e,Q,rg,σ,h=>by
  simp only[oC]at h
  split at h
  ·rename_i b hb
   exact yI hb (fun hb=>qV cfg t Q rg σ (h.l hb)) (fun hb=>qV cfg e Q rg σ (h.r hb))
  grind
 | .block id b,Q,rg,σ,h=>A4 (qV cfg b _ rg σ h)
 | .loop b,Q,rg,σ,h=>h
 | .exit id,Q,rg,σ,h=>HJ h
 | .ret,Q,rg,σ,h=>HY h
 | .scope b,Q,rg,σ,h=>h
 | .label l,Q,rg,σ,h=>HT h
 | .goto l,Q,rg,σ,h=>HQ h
 | .aQ ks a,Q,rg,σ,h=>SW.eR ks (qV cfg a Q _ σ h)
 | .stop a,Q,rg,σ,h=>h
theorem Stop.run{P:Program}[Glob P]{N:Nat}(cfg:Nat→Nat){a:AC}{Q:Exit→af→Store→Prop}{rg:af}{σ:Store}(h:oC P N cfg a Q rg σ):Stop P N a Q rg σ:=qV cfg a Q rg σ h
theorem Stop.loop{P:Program}[Glob P]{N:Nat}{b:AC}{Q:Exit→af→Store→Prop}{rg:af}{σ:Store}(cfg:Nat→Nat)(I:Nat→af→Store→Prop)(n:Nat)(h0:I n rg σ)
  (h:∀ n rg σ,I n rg σ→oC P N cfg b (mr (fun ak σ'=>∃ n',n'<n∧I n' ak σ') Q) rg σ):Stop P N (.loop b) Q rg σ:=
 HU I n h0 fun n rg σ hi=>qV cfg b _ rg σ (h n rg σ hi)
theorem Stop.mono{P:Program}[Glob P]{N:Nat}{a:AC}{Q Q':Exit→af→Store→Prop}{rg:af}{σ:Store}(h:Stop P N a Q rg σ)(hq:∀ e rg σ,Q e rg σ→Q' e rg σ):Stop P N a Q' rg σ:=SW.mono h hq
theorem stop_congr{P:Program}[Glob P]{N:Nat}{a:AC}{Q:Exit→af→Store→Prop}{rg ak:af}{σ σ':Store}(h:rg=ak)(k:σ=σ'):Stop P N a Q rg σ=Stop P N a Q ak σ':=by rw[h,k]
attribute [congr] stop_congr
attribute [congr] callP_congr
attribute [congr] qcall_congr
structure WA(P:Program)[Glob P](N:Nat)(cfg:Nat→Nat)(a:AC)(Q:Exit→af→Store→Prop)(rg:af)(σ:Store):Prop where
 c:cfg=cfg
 h:SW P N a.erase Q rg σ
def je:List Nat→af→Option af
 |[],_=>some []
 |k::ks,rg=>fo (lk rg k) fun x=>match je ks rg with
  |some l=>some ((k,x)::l)
  |none=>none
theorem BF:∀ {ks:List Nat} {rg l:af},je ks rg=some l→eR ks rg=l
 |[],_,_,h=>by cases h;rfl
 |k::ks,rg,l,h=>by
  have h:=jg h
  split at h
  ·rename_i l' h';cases h;simp only[eR,BF h']
  grind
def oR(rg:af):List Operand→Option (List AV)
 |[]=>some []
 |x::l=>fo (ev rg x) fun v=>match oR rg l with
  |some vs=>some (v::vs)
  |none=>none
theorem wM{rg:af}:∀ {l:List Operand} {vs:List AV},oR rg l=some vs→aE rg l=vs
 |[],_,h=>by cases h;rfl
 |x::l,vs,h=>by
  have h:=jg h
  split at h
  ·rename_i l' h';cases h;simp only[aE,wM h']
  grind
def wB(rg:af)(x:Operand):Option Bool:=match ev rg x with
 | .v (.bool b)=>some b
 |_=>none
theorem Iq{rg:af}{x:Operand}{b:Bool}(h:wB rg x=some b):ev rg x= .v (.bool b):=by
 unfold wB at h
 grind
section
variable {P:Program}[Glob P]{N:Nat}{cfg:Nat→Nat}{Q:Exit→af→Store→Prop}{K:af→Store→Prop}{E:List PanicEntry→Store→Prop}{rg ak:af}{σ σ':Store}{l:List CI}{d:Option Nat}{op:aw}{p:Prop}{v:AV}
theorem aa8{a b:AC}(h:WA P N cfg a (mr (fun rg σ=>WA P N cfg b Q rg σ) Q) rg σ):WA P N cfg (.seq a b) Q rg σ:=
 ⟨rfl,A6 (h.h.mono fun e ak σ' he=>by
  cases e with
  |normal=>exact he.h
  |_=>exact he)⟩
theorem aa9(h:Q .normal rg σ):WA P N cfg .skip Q rg σ:=⟨rfl,H6 h⟩
theorem aa7(h:Q .ret rg σ):WA P N cfg .ret Q rg σ:=⟨rfl,HY h⟩
theorem aa3{id:Nat}(h:Q (.exit id) rg σ):WA P N cfg (.exit id) Q rg σ:=⟨rfl,HJ h⟩
theorem aa1{x:Operand}{a b:AC}{c:Bool}(hx:wB rg x=some c)(h1:c=true→WA P N cfg a Q rg σ)(h2:c=false→WA P N cfg b Q rg σ):WA P N cfg (.cond x a b) Q rg σ:=⟨rfl,yI (Iq hx) (fun e=>(h1 e).h) (fun e=>(h2 e).h)⟩
theorem aa0{id:Nat}{a:AC}(h:WA P N cfg a (mH id Q) rg σ):WA P N cfg (.block id a) Q rg σ:=⟨rfl,A4 h.h⟩
theorem Ib{ks:List Nat}{a:AC}(hk:je ks rg=some ak)(h:WA P N cfg a Q ak σ):WA P N cfg (.aQ ks a) Q rg σ:=⟨rfl,SW.eR ks (by rw[BF hk];exact h.h)⟩
theorem NT{a:AC}(I:Nat→af→Store→Prop)(n:Nat)(h0:I n rg σ)(h:∀ n rg σ,I n rg σ→WA P N cfg a (mr (fun ak σ'=>∃ n',n'<n∧I n' ak σ') Q) rg σ):WA P N cfg (.loop a) Q rg σ:=
 ⟨rfl,HU I n h0 fun n rg σ hi=>(h n rg σ hi).h⟩
theorem WA.mono{a:AC}{Q':Exit→af→Store→Prop}(h:WA P N cfg a Q rg σ)(hq:∀ e rg σ,Q e rg σ→Q' e rg σ):WA P N cfg a Q' rg σ:=⟨rfl,h.h.mono hq⟩
theorem ab3{id qz:Nat}(e:Nat.beq qz id=true)(h:Q .normal rg σ):mH id Q (.exit qz) rg σ:=by simp only[mH];simp_all
theorem ab2{id qz:Nat}(e:Nat.beq qz id=false)(h:Q (.exit qz) rg σ):mH id Q (.exit qz) rg σ:=by
 simp only[mH];rw[Z5 (fun k=>by simp_all)];grind
def Fin(eG:Store)(r:AV)(x:AV)(σ:Store):Prop:=Wk x r∧Sub eG σ
theorem Fin.intro{eG:Store}{r x:AV}(h:Sub eG σ)(e:x=r):Fin eG r x σ:=⟨Wk.FM e,h⟩
def pZ(x:AV):Option (List AV):=match x.cells? with
 |some l=>jf l some
 |none=>none
theorem yV{x:AV}{l:List AV}(h:pZ x=some l):x.cells? =some l:=by
 unfold pZ at h
 split at h
 ·rename_i e;have h:=iT h;cases h;exact e
 ·cases h
variable {ah cf:List Nat}{ix:Nat}{ld:List CD}
def Ag(ah cf:List Nat)(rg:af):aw→Bool
 | .load a n x=>kM ah cf rg (.load a n x)
 | .store n x y=>oy ah cf rg (.store n x y)
 | .box .. | .alloc .. | .append .. | .exts .. | .panic .. =>false
 |_=>true
theorem IW{cfg:Nat→Nat}(hc:op.cls=0)(h:cR cfg d rg σ op=some (p,v,σ')):σ'=σ:=by
 cases op
 case load=>cases hc
 case store=>cases hc
 case alloc=>cases hc
 case box=>cases hc
 case append=>cases hc
 case exts=>cases hc
 case panic=>cases hc
 case len s x=>cases s<;>(simp only[cR]at h;grind)<;>cases h<;>rfl
 all_goals simp only[cR,reduceCtorEq]at h
 all_goals(repeat' split at h)
 all_goals first
  |grind
  |grind
  |(have:=jg h;grind)
  |(have:=iT h;grind)
  |(have:=wS h;cases this;rfl)
  |(have h2:=(se h).2;(repeat' split at h2)<;>first|(cases h2;done)|(cases h2;rfl)|(have:=jg h2;cases this;rfl)|(have:=iT h2;cases this;rfl))
theorem OO{K:AV→Prop}(hc:op.cls=0)(h:cR cfg d rg σ op=some (p,v,σ'))(hp:p)(k:K v):aJ P cfg d rg σ K op:=by
 have hs:=ua (P:=P) (K:=fun x _=>K x) (E:=fun _ _=>False) h hp k
 cases op with
 |dZ t ag parts=>
  simp only[aJ]
  simp only[cR]at h
  split at h
  ·split at h
   ·have:=wS h;grind
   ·have:=wS h;grind
   grind
  grind
 |len s x=>
  cases s with
  |true=>exact hs
  |false=>
   simp only[aJ]
   simp only[cR]at h
   split at h
   ·grind
   ·grind
   ·grind
   ·grind
   grind
 |call f args=>cases h
 |fR f args=>cases h
 |cQ op ty ti args=>cases h
 |exts op ty ti args=>cases hc
 |panic x=>cases hc
 |box t x=>cases hc
 |alloc t x=>cases hc
 |store n t x=>cases hc
 |append t n k z x y=>cases hc
 |load a n x=>cases hc
 |_=>exact hs
end
section
variable {P:Program}[Glob P]{cfg:Nat→Nat}{K:af→Store→Prop}{E:List PanicEntry→Store→Prop}{rg:af}{σ:Store}{l:List CI}{d:Option Nat}{op:aw}{ah cf:List Nat}{ix:Nat}{ld:List CD}
end
theorem Pure.run{P:Program}[Glob P][ie P]{f:FuncId}{fn:Func}{fc:FC}{as:List AV}{r:AV}{a:AC}(cfg:Nat→Nat)(hf:P.funcs[f]? =some fn)(hc:jP P fn=some fc)(ha:fc.code=a.erase)(hlen:as.length≤fc.N)
  (h:∀ σ,WA P fc.N cfg a (kO fc.res r σ) (fF 0 as) σ):Pure P f as r:=
 Pure.intro hf hc hlen fun σ=>by rw[ha];exact(h σ).h
theorem Spec.run{P:Program}[Glob P][ie P]{f:FuncId}{fn:Func}{fc:FC}{as:List AV}{σ:Store}{Q:eQ→Store→Prop}{a:AC}(cfg:Nat→Nat)(hf:P.funcs[f]? =some fn)(hc:jP P fn=some fc)(ha:fc.code=a.erase)(hlen:as.length≤fc.N)
  (h:WA P fc.N cfg a (j8 fc.res Q) (fF 0 as) σ):Spec P f as σ Q:=
 Spec.intro hf hc hlen (by rw[ha];exact h.h)
def Hu(I:Nat→af→Store→Prop)(n:Nat)(ks:List Nat)(rg:af)(σ:Store):Prop:=∃ n' ak,n'<n∧je ks rg=some ak∧I n' ak σ
section
variable {P:Program}[Glob P]{N:Nat}{cfg:Nat→Nat}{Q:Exit→af→Store→Prop}{K:af→Store→Prop}{E:List PanicEntry→Store→Prop}{rg ak:af}{σ σ':Store}{l:List CI}{d:Nat}{op:aw}{p:Prop}{v:AV}
variable {ah cf:List Nat}{ix:Nat}{ld:List CD}
theorem Hu.intro{I:Nat→af→Store→Prop}{n:Nat}{ks:List Nat}(hk:je ks rg=some ak)(h:∃ n',n'<n∧I n' ak σ):Hu I n ks rg σ:=h.elim fun n' h=>⟨n',ak,h.1,hk,h.2⟩
def wR(x:AV):Option (FuncId×Array Value×Array Value):=match x with
 | .v (.func (.func f) a c)=>some (f,a,c)
 |_=>none
theorem BG{x:AV}{f:FuncId}{a c:Array Value}(h:wR x=some (f,a,c)):x= .v (.func (.func f) a c):=by
 unfold wR at h
 split at h
 ·cases h;rfl
 ·cases h
def jJ(x:AV):Option (Nat×List (List AV)):=match x with
 | .sl _ e rows=>some (e,rows)
 | .own e _ _ _ _ rows=>some (e,rows)
 |_=>none
theorem qN{x:AV}{e:Nat}{rows:List (List AV)}(h:jJ x=some (e,rows)):(∃ nn,x= .sl nn e rows)∨∃ t b u c,x= .own e t b u c rows:=by
 unfold jJ at h
 split at h
 ·simp_all
 ·simp_all
 grind
def iJ(x:AV):Option Int:=match x with
 | .v (.int _ n)=>some n
 |_=>none
theorem pq{x:AV}{n:Int}(h:iJ x=some n):∃ q,x= .v (.int q n):=by
 unfold iJ at h
 split at h
 ·cases h;exact⟨_,rfl⟩
 ·cases h
end
theorem Fin.wk{eG σ:Store}{r x:AV}(h:Sub eG σ)(w:Wk x r):Fin eG r x σ:=⟨w,h⟩
theorem bt{p:Prop}[Decidable p](h:p):AV.v (.bool true)=AV.v (.bool (decide p)):=by rw[YR h]
theorem bf{p:Prop}[Decidable p](h:¬p):AV.v (.bool false)=AV.v (.bool (decide p)):=by rw[Zd h]
end Go.Sx
