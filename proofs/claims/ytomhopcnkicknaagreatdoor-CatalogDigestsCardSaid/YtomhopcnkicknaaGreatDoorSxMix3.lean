/-
  The layer Sx, fifteenth part: the region whose order is open, with new variables and stores.
-/
import Derived.Test.YtomhopcnkicknaaGreatDoorSxMix2
set_option linter.unusedVariables false
set_option linter.unusedSimpArgs false
set_option linter.unusedSectionVars false
namespace Go.Sx
open Go.RowKit
def Cl(K:ah→Store→Prop)(rg:ah)(σ:Store):Prop:=∃ ay af,(∀ i,lk ay i=lk rg i)∧dR af σ∧K ay af
theorem Cl.intro{K:ah→Store→Prop}{rg:ah}{σ:Store}(h:K rg σ):Cl K rg σ:=⟨rg,σ,fun _=>rfl,dR.refl _,h⟩
theorem Cl.closed(K:ah→Store→Prop):qJ (Cl K):=fun _ _ _ _ hr hs ⟨ay,af,h1,h2,h3⟩=>⟨ay,af,fun i=>(h1 i).trans (hr i),h2.trans hs,h3⟩
def SJ(ops:Array Oper)(al:List Nat)(a c:CD):Prop:=fS ops a.ix c.ix=false∧(fS ops c.ix a.ix=true∨sL al a c=true∨yr ops 2 c.ix a.ix=true)
theorem Py{ops:Array Oper}{al:List Nat}:∀ (l:List CD),wC ops al l=true→l.Pairwise (SJ ops al)
 |[],_=> .nil
 |a::l,h=>by
  simp only[wC,ZP,Zx,YU,YP]at h
  exact .cons (fun c hc=>⟨(h.1.2 c hc).1,by
   grind⟩) (Py l h.2)
theorem MK{ops:Array Oper}{p:Nat→Bool}(hd:∀ i,p i=true→∀ j,fS ops i j=true→p j=true):∀ (n i j:Nat),(∀ b,fS ops i b=true→p b=true)→yr ops n i j=true→p j=true
 |0,i,j,hi,h=>hi j h
 |n+1,i,j,hi,h=>by
  rw[yr,YU]at h
  rcases h with h|h
  ·grind
  ·obtain⟨b,_,hb⟩:=YC.1 h
   rw[ZP]at hb
   exact MK hd n b j (fun c hc=>hd b (hi b hb.1) c hc) hb.2
theorem Pz{ops:Array Oper}{al:List Nat}:∀ (l:List CD),wC ops al l=true→∀ x∈l,fS ops x.ix x.ix=false
 |[],_,x,hx=>by cases hx
 |a::l,h,x,hx=>by
  simp only[wC,ZP,YP]at h
  rcases ZQ.1 hx with rfl|hx
  ·grind
  ·exact Pz l h.2 x hx
section
variable {P:Program}[Glob P]{M:Mem}{w0:Base}{σ:Store}{rg:ah}{cfg:Nat→Nat}{N:Nat}{al:List Nat}
theorem RB{K K':ah→Store→Prop}(hk:∀ rg σ,K rg σ→K' rg σ):∀ (l:List CD) (rg:ah) (σ:Store),(∀ x∈l,gU x=true)→ef P cfg al l K rg σ→ef P cfg al l K' rg σ
 |[],rg,σ,_,h=>hk _ _ h
 |c::l,rg,σ,ho,h=>Jf (ho c (by simp)) h fun y bE _ hv=>RB hk l _ bE (fun x hx=>ho x (by simp[hx])) hv
theorem SS{l:List CD}{Q:Exit→ah→Store→Prop}(cfg:Nat→Nat)(Ψ:List CD→ah→Store→Prop)(h0:(∀ x∈l,gU x=true)→Ψ l rg σ)(acQ:∀ rg σ,Ψ [] rg σ→Cl (Q .normal) rg σ)
  (adh:∀ (A:List CD) (x:CD) (B:List CD) (rg:ah) (σ:Store),(∀ a∈A++x::B,gU a=true)→(∀ a∈A,sL al a x=true)→Ψ (A++x::B) rg σ→
   ∃ ay af,(∀ i,lk ay i=lk rg i)∧dR af σ∧dP P cfg x.c (fun y bE=>Ψ (A++B) (cr x.c.d y rg) bE) (fun ch af=>Q (.panic ch) [] af) ay af):SW P N (.dx al l) Q rg σ:=by
 intro c hc M w0 a w hI hR hN hD
 obtain⟨id,ops,cl,rfl,dJ,yF,cy,tq⟩:=kC hc
 obtain⟨hlen,B3⟩:=Bk ops.toList cl dJ
 unfold CW at cy
 simp only[ZP,Zn]at cy
 obtain⟨⟨⟨⟨⟨hnd,oI⟩,acO⟩,oK⟩,acJ⟩,Nn⟩:=cy
 have adb:=Pz l Nn
 have oI:=ZW oI
 have Gt:∀ x∈l,gU x=true:=Zx.1 oK
 have ny:=Py l Nn
 have ax:∀ x∈l,x.ix<ops.size:=fun x hx=>by
  grind
 have h':=h0 Gt
 refine ES tq ?_
 have main:∀ (fuel:Nat) (L:List CD) (listed:Array Bool) (a:Act) (w:World),listed.size=ops.size→L.length≤fuel→L.Sublist l→
   (∀ i,i<ops.size→(listed.getD i true=false↔∃ x∈L,x.ix=i))→(∀ i,listed.getD i false=true→∀ j,fS ops i j=true→listed.getD j false=true)→
   (∃ M2 dA bE,M.le M2∧Inv P M2 w0 bE w∧bW M2 dA a∧a.tmps.size=N∧a.defers=Glob.df P∧Ψ L dA bE)→
   wpAny P .any ops (jJ P M w0 N Q) fuel listed a w:=by
  have fin:∀ (a:Act) (w:World),(∃ M2 dA bE,M.le M2∧Inv P M2 w0 bE w∧bW M2 dA a∧a.tmps.size=N∧a.defers=Glob.df P∧Ψ [] dA bE)→jJ P M w0 N Q .normal a w:=by
   rintro a w ⟨M2,dA,bE,g1,g2,g3,g4,g5,g6⟩
   obtain⟨mG,kY,k1,k2,k3⟩:=acQ _ _ g6
   exact⟨M2,mG,kY,g1,g2.perm k2.2.symm,fun i=>by rw[k1];exact g3 i,g4,g5,k3⟩
  intro fuel
  induction fuel with
  |zero=>
   intro L listed a w bC vK iW hL F4 eX
   obtain rfl:L=[]:=XE.1 (by omega)
   refine⟨?_,fin a w eX⟩
   unfold Region.ready
   rw[Xz]
   intro i hi
   have dw:i<ops.size:=by simpa using hi
   have:listed.getD i true=true:=by
    cases nk:listed.getD i true with
    |true=>rfl
    |false=>obtain⟨x,hx,_⟩:=(hL i dw).1 nk;cases hx
   simp[this]
  |succ fuel ih=>
   intro L listed a w bC vK iW hL F4 eX
   have FV:∀ i,i<ops.size→listed.getD i false=listed.getD i true:=fun i hi=>by
    rw[ZT,ZT,ZH (by omega)];rfl
   refine⟨fun hr=> ?_,fun i hi=> ?_⟩
   ·cases L with
    |nil=>exact fin a w eX
    |cons x L=>
     exfalso
     have hx:=iW.subset (Zv)
     have iz:=ax x hx
     have Gz:=ny.sublist iW
     have:x.ix∈Region.ready .any ops listed:=by
      unfold Region.ready
      rw[Zh]
      refine⟨by simpa using iz,?_⟩
      have nk:listed.getD x.ix true=false:=(hL x.ix iz).2 ⟨x,by simp,rfl⟩
      simp only[nk,Xy,Bool.true_and,ZH iz,Zc,Zu]
      rw[ZD]
      intro e he
      cases kK:Region.binds .any e with
      |false=>rfl
      |true=>
       have oJ:e.on<ops.size:=by
        have h1:=ZD.1 acJ _ (Yo iz)
        have h2:=ZD.1 h1 e he
        simpa[kK]using h2
       have:listed.getD e.on true=true:=by
        cases hle:listed.getD e.on true with
        |true=>rfl
        |false=>
         exfalso
         obtain⟨y,hy,hyi⟩:=(hL e.on oJ).1 hle
         have hE:fS ops x.ix y.ix=true:=by
          unfold fS
          rw[ZH iz]
          simp only[X0]
          obtain⟨m,hm,hme⟩:=Array.mem_iff_getElem.1 he
          exact⟨m,hm,by rw[hme,kK,hyi];simp⟩
         rcases ZQ.1 hy with rfl|hy
         ·
          have:=(adb y hx)
          rw[this]at hE;cases hE
         ·have:=(List.rel_of_pairwise_cons Gz hy).1
          rw[this]at hE;cases hE
       simp[FV e.on oJ,this]
     rw[hr]at this
     cases this
   ·unfold Region.ready at hi
    rw[Zh]at hi
    obtain⟨ni,iV⟩:=hi
    have fL:i<ops.size:=by simpa using ni
    simp only[ZP,YP,ZH fL,Zc,Zu]at iV
    obtain⟨pR,vL⟩:=iV
    obtain⟨x,hxL,rfl⟩:=(hL i fL).1 pR
    obtain⟨A,B,rfl⟩:=X5 hxL
    have hx:=iW.subset hxL
    obtain⟨M2,dA,bE,g1,g2,g3,g4,g5,g6⟩:=eX
    have Gz:=ny.sublist iW
    have Nw:∀ b,fS ops x.ix b=true→listed.getD b false=true:=fun b hb=>by
     unfold fS at hb
     rw[ZH fL]at hb
     simp only[X0,ZP,beq_iff_eq]at hb
     obtain⟨m,hm,rq,oJ⟩:=hb
     have:=ZD.1 vL _ (Yo hm)
     rw[rq,oJ]at this
     simpa using this
    have hA:∀ a∈A,sL al a x=true∧gU a=true:=by
     intro b hb
     refine⟨?_,Gt b (iW.subset (by simp[hb]))⟩
     have hp:=(XW.1 Gz).2.2 b hb x (by simp)
     rcases hp.2 with hE|hc|hR
     rotate_left 2
     ·exfalso
      have:=MK (p:=fun i=>listed.getD i false) F4 2 x.ix b.ix Nw hR
      have fU:=ax b (iW.subset (by simp[hb]))
      try simp only at this
      rw[FV _ fU,(hL b.ix fU).2 ⟨b,by simp[hb],rfl⟩]at this
      cases this
     ·exfalso
      unfold fS at hE
      rw[ZH fL]at hE
      simp only[X0,ZP,beq_iff_eq]at hE
      obtain⟨m,hm,rq,oJ⟩:=hE
      have:=ZD.1 vL _ (Yo hm)
      rw[rq,oJ]at this
      have fU:=ax b (iW.subset (by simp[hb]))
      rw[FV _ fU,(hL b.ix fU).2 ⟨b,by simp[hb],rfl⟩]at this
      simp at this
     ·exact hc
    obtain⟨rgq,σq,eq1,eq2,hq⟩:=adh A x B dA bE (fun b hb=>Gt b (iW.subset hb)) (fun b hb=>(hA b hb).1) g6
    have oB:pF P N ops ops[x.ix]=some x.c:=by
     have MT:x.ix<cl.length:=by rw[hlen];simpa using fL
     have:=B3 x.ix (by simpa using fL) MT
     have e:=yF x hx
     rw[ZX MT]at e
     have e:=Yn e
     rw[← e]
     simpa using this
    obtain⟨jO,ac2⟩:=xW oB
    unfold wpOp
    simp only[ZH fL]
    refine s4 oB hq (g2.perm eq2.2.symm) (fun i=>by rw[eq1];exact g3 i) ⟨?_,fun M3 ch kY w' hM aS hk=>⟨M3,[],kY,g1.trans hM,aS,fun i=> .any _,g4,g5,hk⟩⟩
    rintro M3 y kY v w' hM aS hy hv
    have ac4:((A++x::B).map (·.ix)).Nodup:=hnd.sublist (iW.map _)
    refine ih (A++B) _ _ _ (by simp[bC]) (by simp at vK ⊢;omega) (List.Sublist.trans (List.Sublist.append (List.Sublist.refl A) (List.sublist_cons_self x B)) iW) (fun j hj=> ?_) (fun i hi j fV=> ?_)
     ⟨M3,_,kY,g1.trans hM,aS,by rw[jO];exact(g3.mono hM).put _ (fun t ht=>by rw[g4];exact ac2 t (jO.trans ht)) hy,by rw[Act.size_put];exact g4,by rw[Act.x2];exact g5,hv⟩
    rotate_left
    ·have Nj:∀ k,listed.getD k false=true→(listed.setIfInBounds x.ix true).getD k false=true:=fun k hk=>by
      rw[ZT]at hk ⊢
      rw[Zp]
      split
      ·rename_i e;subst e;simp[bC,fL]
      ·exact hk
     by_cases vW:x.ix=i
     ·subst vW;exact Nj j (Nw j fV)
     ·refine Nj j (F4 i ?_ j fV)
      rw[ZT,Zp,Z6 vW]at hi
      rw[ZT];exact hi
    have lH:∀ z∈A++B,z.ix≠x.ix:=by
     intro z hz e
     have hp:((x::(A++B)).map (·.ix)).Nodup:=(((List.perm_middle (a:=x) (l₁:=A) (l₂:=B)).map (·.ix)).nodup_iff).1 ac4
     rw[ZC,YX]at hp
     exact hp.1 (by rw[← e];exact Yz hz)
    by_cases jP:x.ix=j
    ·subst jP
     have e:(listed.setIfInBounds x.ix true).getD x.ix true=true:=by
      rw[ZT,Zp];simp[bC,fL]
     rw[e]
     exact⟨fun h=>(nomatch h),fun⟨z,hz,e⟩=>absurd e (lH z hz)⟩
    ·have e:(listed.setIfInBounds x.ix true).getD j true=listed.getD j true:=by
      rw[ZT,Zp,Z6 jP,ZT]
     rw[e,hL j hj]
     constructor
     ·rintro⟨z,hz,rfl⟩
      refine⟨z,?_,rfl⟩
      rcases ZI.1 hz with hz|hz
      ·exact ZK _ hz
      ·rcases ZQ.1 hz with rfl|hz
       ·exact absurd rfl jP
       ·exact Zt _ hz
     ·rintro⟨z,hz,rfl⟩
      refine⟨z,?_,rfl⟩
      rcases ZI.1 hz with hz|hz
      ·exact ZK _ hz
      ·exact Zt _ (ZL _ hz)
 have aNi:∀ i,i<ops.size→∃ x∈l,x.ix=i:=fun i hi=>by
  have:=Zx.1 acO i (by simpa using hi)
  obtain⟨x,hx,e⟩:=YC.1 this
  exact⟨x,hx,Zm e⟩
 refine main ops.size l _ a _ (by simp) oI (List.Sublist.refl _) (fun i hi=> ?_) (fun i hi=> ?_) ⟨M,rg,σ,Mem.le.refl _,hI.ly,hR,hN,hD,h'⟩
 rotate_left
 ·exfalso
  rw[ZT,Array.getElem?_replicate]at hi
  split at hi<;>cases hi
 simp_all
theorem J2{l:List CD}{Q:Exit→ah→Store→Prop}(cfg:Nat→Nat)(h:ef P cfg al l (Q .normal) rg σ):SW P N (.dx al l) Q rg σ:=
 SS cfg (fun L rg σ=>ef P cfg al L (Cl (Q .normal)) rg σ) (fun ho=>RB (fun _ _=>Cl.intro) l rg σ ho h) (fun _ _ h=>h)
  fun A x B rg σ ho hA hv=>⟨rg,σ,fun _=>rfl,dR.refl _,Rx (ho x (by simp)) (L8 (Cl.closed _) (ho x (by simp)) A B rg σ (fun a ha=>⟨hA a ha,ho a (by simp[ha])⟩) (fun b hb=>ho b (by simp[hb])) hv)⟩
theorem AZ{s:SC}{Q:Exit→ah→Store→Prop}(h:SW P N s (fun e=>Cl (Q e)) rg σ):SW P N s Q rg σ:=
 fun c hc M w0 a w hI hR hN hD=>xX (h c hc M w0 a w hI hR hN hD) fun _ _ _ ⟨M2,dA,bE,h1,h2,h3,h4,h5,mG,kY,k1,k2,k3⟩=>
  ⟨M2,mG,kY,h1,h2.perm k2.2.symm,fun i=>by rw[k1];exact h3 i,h4,h5,k3⟩
def bare(l:List CI):List CD:=l.map fun c=>⟨0,c,[]⟩
theorem Au{K:ah→Store→Prop}:∀ (l:List CI) (rg fD:ah),(∀ i,lk rg i=lk fD i)→(∀ c∈l,c.op.cls≤1∨(c.op.cls=4∧c.g=none))→ef P cfg [] (bare l) K rg σ→
  AP P cfg (fun ay=>K ay σ) l fD σ
 |[],rg,fD,he,_,h=>⟨[],rfl,⟨rg,h,he⟩,fun i h=>absurd h (by simp)⟩
 |c::l,rg,fD,he,hc,h=>by
  have h1:c.op.cls≤1:=by
   rcases hc c (by simp)with h1|⟨h1,h2⟩
   ·exact h1
   ·have h:dm P cfg [] ⟨0,c,[]⟩ (fun x af=>ef P cfg [] (bare l) K (cr c.d x rg) af) rg σ:=h
    unfold dm di at h
    grind
  have ho:gU ⟨0,c,[]⟩=true:=by
   unfold gU
   have h2:Nat.ble c.op.cls 1=true:=Nat.ble_eq_true_of_le h1
   have h3:(Nat.ble c.op.cls 3 || isApp c.op)=true:=by rw[Nat.ble_eq_true_of_le (by omega)];rfl
   have h4:Nat.beq c.op.cls 2=false:=by rw[← Yi,Nat.beq_eq];omega
   grind
  obtain⟨x,hx,hv⟩:=x3 (c:=⟨0,c,[]⟩) h1 h
  have hq:QV P cfg c rg σ x:=Rx (c:=⟨0,c,[]⟩) (E:=fun _ _=>False) ho (hv σ (fun _ _ _ _ _ _ h=>h) (fun y s=>y=x∧s=σ) ⟨rfl,rfl⟩)
  obtain⟨xs,g1,g2,g3⟩:=Au l _ (cr c.d x fD) (zM he c.d x) (fun c' h'=>hc c' (by simp[h'])) hx
  refine⟨x::xs,by simp[g1],g2,fun i hi dw=> ?_⟩
  cases i with
  |zero=>exact sx (fun t _=>he t) hq
  |succ i=>simpa[dv]using g3 i (by grind) (by grind)
theorem Av{K:ah→Store→Prop}:∀ (l:List CI) (rg:ah),(∀ c∈l,c.op.cls≤1∨(c.op.cls=4∧c.g=none))→ef P cfg [] (bare l) K rg σ→∀ c∈l,c.op.cls≤1
 |[],_,_,_=>fun _ h=>by cases h
 |c::l,rg,hc,h=>by
  have h1:c.op.cls≤1:=by
   rcases hc c (by simp)with h1|⟨h1,h2⟩
   ·exact h1
   ·have h:dm P cfg [] ⟨0,c,[]⟩ (fun x af=>ef P cfg [] (bare l) K (cr c.d x rg) af) rg σ:=h
    unfold dm di at h
    grind
  obtain⟨x,hx,_⟩:=x3 (c:=⟨0,c,[]⟩) h1 h
  intro c' gi
  rcases ZQ.1 gi with rfl|gi
  ·exact h1
  ·exact Av l _ (fun c h=>hc c (by simp[h])) hx c' gi
theorem aNG{l:List CI}{Q:Exit→ah→Store→Prop}(cfg:Nat→Nat)(h:ef P cfg [] (bare l) (Cl (Q .normal)) rg σ):SW P N (.cG l) Q rg σ:=
 AZ (uO cfg fun hc=>⟨Au (K:=Cl (Q .normal)) l rg rg (fun _=>rfl) hc h,Av l rg hc h⟩)
theorem SU{l:List CD}{Q:Exit→ah→Store→Prop}(cfg:Nat→Nat)(h:ef P cfg al l (Cl (Q .normal)) rg σ):SW P N (.dx al l) Q rg σ:=
 AZ (J2 (Q:=fun e=>Cl (Q e)) cfg h)
end
inductive AC where
 |skip
 |eZ (l:List CI)
 |cG (l:List CI)
 |dx (al:List Nat) (l:List CD)
 |seq (a b:AC)
 |cond (c:Operand) (t e:AC)
 |block (id:Nat) (b:AC)
 |loop (b:AC)
 |exit (id:Nat)
 |ret
 |scope (b:AC)
 |label (l:Nat)
 |goto (l:Nat)
 |bY (ks:List Nat) (a:AC)
 |stop (a:AC)
def AC.erase:AC→SC
 | .skip=> .skip
 | .eZ l=> .eZ l
 | .cG l=> .cG l
 | .dx al l=> .dx al l
 | .seq a b=> .seq a.erase b.erase
 | .cond c t e=> .cond c t.erase e.erase
 | .block id b=> .block id b.erase
 | .loop b=> .loop b.erase
 | .exit id=> .exit id
 | .ret=> .ret
 | .scope b=> .scope b.erase
 | .label l=> .label l
 | .goto l=> .goto l
 | .bY _ a=>a.erase
 | .stop a=>a.erase
def Stop(P:Program)[Glob P](N:Nat)(a:AC)(Q:Exit→ah→Store→Prop)(rg:ah)(σ:Store):Prop:=SW P N a.erase Q rg σ
def o8(P:Program)[Glob P](N:Nat)(cfg:Nat→Nat):AC→(Exit→ah→Store→Prop)→ah→Store→Prop
 | .skip,Q,rg,σ=>Q .normal rg σ
 | .eZ l,Q,rg,σ=>o9 P cfg l (Q .normal) (fun ch af=>Q (.panic ch) [] af) rg σ
 | .cG l,Q,rg,σ=>nT P cfg l (fun ay=>Q .normal ay σ) rg σ
 | .dx al l,Q,rg,σ=>ef P cfg al l (Q .normal) rg σ
 | .seq a b,Q,rg,σ=>o8 P N cfg a (qw (o8 P N cfg b Q) Q) rg σ
 | .cond c t e,Q,rg,σ=>match ev rg c with
  | .v (.bool b)=>Gd b true (o8 P N cfg t Q rg σ) (o8 P N cfg e Q rg σ)
  |_=>False
 | .block id b,Q,rg,σ=>o8 P N cfg b (pB id Q) rg σ
 | .loop b,Q,rg,σ=>Stop P N (.loop b) Q rg σ
 | .exit id,Q,rg,σ=>Q (.exit id) rg σ
 | .ret,Q,rg,σ=>Q .ret rg σ
 | .scope b,Q,rg,σ=>Stop P N (.scope b) Q rg σ
 | .label l,Q,rg,σ=>Q .normal rg σ
 | .goto l,Q,rg,σ=>Q (.goto l) rg σ
 | .bY ks a,Q,rg,σ=>o8 P N cfg a Q (gB ks rg) σ
 | .stop a,Q,rg,σ=>Stop P N a Q rg σ
theorem sd{P:Program}[Glob P]{N:Nat}(cfg:Nat→Nat):∀ (a:AC) (Q:Exit→ah→Store→Prop) (rg:ah) (σ:Store),o8 P N cfg a Q rg σ→SW P N a.erase Q rg σ
 | .skip,Q,rg,σ,h=>J5 h
 | .eZ l,Q,rg,σ,h=>SV cfg h
 | .cG l,Q,rg,σ,h=>SM cfg h
 | .dx al l,Q,rg,σ,h=>J2 cfg h
 | .seq a b,Q,rg,σ,h=>J4 ((sd cfg a _ rg σ h).mono fun e ay af he=>by
   cases e with
   |normal=>exact sd cfg b Q ay af he
   |_=>exact he)
 | .cond c t e,Q,rg,σ,h=>by
  simp only[o8]at h
  split at h
  ·rename_i b hb
   exact JZ hb (fun hb=>sd cfg t Q rg σ (h.l hb)) (fun hb=>sd cfg e Q rg σ (h.r hb))
  grind
 | .block id b,Q,rg,σ,h=>JY (sd cfg b _ rg σ h)
 | .loop b,Q,rg,σ,h=>h
 | .exit id,Q,rg,σ,h=>J0 h
 | .ret,Q,rg,σ,h=>J3 h
 | .scope b,Q,rg,σ,h=>h
 | .label l,Q,rg,σ,h=>SR h
 | .goto l,Q,rg,σ,h=>SQ h
 | .bY ks a,Q,rg,σ,h=>SW.gB ks (sd cfg a Q _ σ h)
 | .stop a,Q,rg,σ,h=>h
theorem Stop.run{P:Program}[Glob P]{N:Nat}(cfg:Nat→Nat){a:AC}{Q:Exit→ah→Store→Prop}{rg:ah}{σ:Store}(h:o8 P N cfg a Q rg σ):Stop P N a Q rg σ:=sd cfg a Q rg σ h
theorem Stop.loop{P:Program}[Glob P]{N:Nat}{b:AC}{Q:Exit→ah→Store→Prop}{rg:ah}{σ:Store}(cfg:Nat→Nat)(I:Nat→ah→Store→Prop)(n:Nat)(h0:I n rg σ)
  (h:∀ n rg σ,I n rg σ→o8 P N cfg b (qw (fun ay af=>∃ n',n'<n∧I n' ay af) Q) rg σ):Stop P N (.loop b) Q rg σ:=
 J1 I n h0 fun n rg σ hi=>sd cfg b _ rg σ (h n rg σ hi)
theorem Stop.mono{P:Program}[Glob P]{N:Nat}{a:AC}{Q Q':Exit→ah→Store→Prop}{rg:ah}{σ:Store}(h:Stop P N a Q rg σ)(hq:∀ e rg σ,Q e rg σ→Q' e rg σ):Stop P N a Q' rg σ:=SW.mono h hq
theorem stop_congr{P:Program}[Glob P]{N:Nat}{a:AC}{Q:Exit→ah→Store→Prop}{rg ay:ah}{σ af:Store}(h:rg=ay)(k:σ=af):Stop P N a Q rg σ=Stop P N a Q ay af:=by rw[h,k]
attribute [congr] stop_congr
attribute [congr] callP_congr
attribute [congr] qcall_congr
structure WA(P:Program)[Glob P](N:Nat)(cfg:Nat→Nat)(a:AC)(Q:Exit→ah→Store→Prop)(rg:ah)(σ:Store):Prop where
 c:cfg=cfg
 h:SW P N a.erase Q rg σ
def lB:List Nat→ah→Option ah
 |[],_=>some []
 |k::ks,rg=>fo (lk rg k) fun x=>match lB ks rg with
  |some l=>some ((k,x)::l)
  |none=>none
theorem LQ:∀ {ks:List Nat} {rg l:ah},lB ks rg=some l→gB ks rg=l
 |[],_,_,h=>by cases h;rfl
 |k::ks,rg,l,h=>by
  have h:=ij h
  split at h
  ·rename_i l' h';cases h;simp only[gB,LQ h']
  grind
def E2(rg:ah):List Operand→Option (List AV)
 |[]=>some []
 |x::l=>fo (ev rg x) fun v=>match E2 rg l with
  |some vs=>some (v::vs)
  |none=>none
theorem Lu{rg:ah}:∀ {l:List Operand} {vs:List AV},E2 rg l=some vs→bD rg l=vs
 |[],_,h=>by cases h;rfl
 |x::l,vs,h=>by
  have h:=ij h
  split at h
  ·rename_i l' h';cases h;simp only[bD,Lu h']
  grind
def xR(rg:ah)(x:Operand):Option Bool:=match ev rg x with
 | .v (.bool b)=>some b
 |_=>none
theorem WM{rg:ah}{x:Operand}{b:Bool}(h:xR rg x=some b):ev rg x= .v (.bool b):=by
 unfold xR at h
 grind
section
variable {P:Program}[Glob P]{N:Nat}{cfg:Nat→Nat}{Q:Exit→ah→Store→Prop}{K:ah→Store→Prop}{E:List PanicEntry→Store→Prop}{rg ay:ah}{σ af:Store}{l:List CI}{d:Option Nat}{op:aB}{p:Prop}{v:AV}
theorem T6{a b:AC}(h:WA P N cfg a (qw (fun rg σ=>WA P N cfg b Q rg σ) Q) rg σ):WA P N cfg (.seq a b) Q rg σ:=
 ⟨rfl,J4 (h.h.mono fun e ay af he=>by
  cases e with
  |normal=>exact he.h
  |_=>exact he)⟩
theorem T7(h:Q .normal rg σ):WA P N cfg .skip Q rg σ:=⟨rfl,J5 h⟩
theorem T5(h:Q .ret rg σ):WA P N cfg .ret Q rg σ:=⟨rfl,J3 h⟩
theorem TZ{id:Nat}(h:Q (.exit id) rg σ):WA P N cfg (.exit id) Q rg σ:=⟨rfl,J0 h⟩
theorem TX{x:Operand}{a b:AC}{c:Bool}(hx:xR rg x=some c)(h1:c=true→WA P N cfg a Q rg σ)(h2:c=false→WA P N cfg b Q rg σ):WA P N cfg (.cond x a b) Q rg σ:=⟨rfl,JZ (WM hx) (fun e=>(h1 e).h) (fun e=>(h2 e).h)⟩
theorem TW{id:Nat}{a:AC}(h:WA P N cfg a (pB id Q) rg σ):WA P N cfg (.block id a) Q rg σ:=⟨rfl,JY h.h⟩
theorem Kd{ks:List Nat}{a:AC}(hk:lB ks rg=some ay)(h:WA P N cfg a Q ay σ):WA P N cfg (.bY ks a) Q rg σ:=⟨rfl,SW.gB ks (by rw[LQ hk];exact h.h)⟩
theorem T0{a:AC}(I:Nat→ah→Store→Prop)(n:Nat)(h0:I n rg σ)(h:∀ n rg σ,I n rg σ→WA P N cfg a (qw (fun ay af=>∃ n',n'<n∧I n' ay af) Q) rg σ):WA P N cfg (.loop a) Q rg σ:=
 ⟨rfl,J1 I n h0 fun n rg σ hi=>(h n rg σ hi).h⟩
theorem WA.mono{a:AC}{Q':Exit→ah→Store→Prop}(h:WA P N cfg a Q rg σ)(hq:∀ e rg σ,Q e rg σ→Q' e rg σ):WA P N cfg a Q' rg σ:=⟨rfl,h.h.mono hq⟩
theorem WL{id oQ:Nat}(e:Nat.beq oQ id=true)(h:Q .normal rg σ):pB id Q (.exit oQ) rg σ:=by simp only[pB];simp_all
theorem WJ{id oQ:Nat}(e:Nat.beq oQ id=false)(h:Q (.exit oQ) rg σ):pB id Q (.exit oQ) rg σ:=by
 simp only[pB];rw[Z6 (fun k=>by simp_all)];grind
def Fin(fa:Store)(r:AV)(x:AV)(σ:Store):Prop:=Wk x r∧Sub fa σ
theorem Fin.intro{fa:Store}{r x:AV}(h:Sub fa σ)(e:x=r):Fin fa r x σ:=⟨Wk.HV e,h⟩
def qX(x:AV):Option (List AV):=match x.cells? with
 |some l=>jL l some
 |none=>none
theorem Bh{x:AV}{l:List AV}(h:qX x=some l):x.cells? =some l:=by
 unfold qX at h
 split at h
 ·rename_i e;have h:=jn h;cases h;exact e
 ·cases h
variable {al cf:List Nat}{ix:Nat}{ld:List CD}
def Pm(al cf:List Nat)(rg:ah):aB→Bool
 | .load a n x=>qc al cf rg (.load a n x)
 | .store n x y=>rS al cf rg (.store n x y)
 | .box .. | .alloc .. | .append .. | .exts .. | .panic .. =>false
 |_=>true
theorem K6{cfg:Nat→Nat}(hc:op.cls=0)(h:cV cfg d rg σ op=some (p,v,af)):af=σ:=by
 cases op
 case load=>cases hc
 case store=>cases hc
 case alloc=>cases hc
 case box=>cases hc
 case append=>cases hc
 case exts=>cases hc
 case panic=>cases hc
 case len s x=>cases s<;>(simp only[cV]at h;grind)<;>cases h<;>rfl
 all_goals simp only[cV,reduceCtorEq]at h
 all_goals(repeat' split at h)
 all_goals first
  |grind
  |grind
  |(have:=ij h;grind)
  |(have:=jn h;grind)
  |(have:=sZ h;cases this;rfl)
  |(have h2:=(rG h).2;(repeat' split at h2)<;>first|(cases h2;done)|(cases h2;rfl)|(have:=ij h2;cases this;rfl)|(have:=jn h2;cases this;rfl))
theorem aaz{K:AV→Prop}(hc:op.cls=0)(h:cV cfg d rg σ op=some (p,v,af))(hp:p)(k:K v):aK P cfg d rg σ K op:=by
 have hs:=Bq (P:=P) (K:=fun x _=>K x) (E:=fun _ _=>False) h hp k
 cases op with
 |br t ag parts=>
  simp only[aK]
  simp only[cV]at h
  split at h
  ·split at h
   ·have:=sZ h;grind
   ·have:=sZ h;grind
   grind
  grind
 |len s x=>
  cases s with
  |true=>exact hs
  |false=>
   simp only[aK]
   simp only[cV]at h
   split at h
   ·grind
   ·grind
   ·grind
   ·grind
   grind
 |call f args=>cases h
 |gz f args=>cases h
 |bS op ty ti args=>cases h
 |exts op ty ti args=>cases hc
 |panic x=>cases hc
 |box t x=>cases hc
 |alloc t x=>cases hc
 |store n t x=>cases hc
 |append t n k z x y=>cases hc
 |load a n x=>cases hc
 |_=>exact hs
end
section
variable {P:Program}[Glob P]{cfg:Nat→Nat}{K:ah→Store→Prop}{E:List PanicEntry→Store→Prop}{rg:ah}{σ:Store}{l:List CI}{d:Option Nat}{op:aB}{al cf:List Nat}{ix:Nat}{ld:List CD}
end
theorem Pure.run{P:Program}[Glob P][ku P]{f:FuncId}{fn:Func}{fc:FC}{as:List AV}{r:AV}{a:AC}(cfg:Nat→Nat)(hf:P.funcs[f]? =some fn)(hc:iN P fn=some fc)(ha:fc.code=a.erase)(hlen:as.length≤fc.N)
  (h:∀ σ,WA P fc.N cfg a (mF fc.res r σ) (kv 0 as) σ):Pure P f as r:=
 Pure.intro hf hc hlen fun σ=>by rw[ha];exact(h σ).h
theorem Spec.run{P:Program}[Glob P][ku P]{f:FuncId}{fn:Func}{fc:FC}{as:List AV}{σ:Store}{Q:jg→Store→Prop}{a:AC}(cfg:Nat→Nat)(hf:P.funcs[f]? =some fn)(hc:iN P fn=some fc)(ha:fc.code=a.erase)(hlen:as.length≤fc.N)
  (h:WA P fc.N cfg a (nN fc.res Q) (kv 0 as) σ):Spec P f as σ Q:=
 Spec.intro hf hc hlen (by rw[ha];exact h.h)
def JV(I:Nat→ah→Store→Prop)(n:Nat)(ks:List Nat)(rg:ah)(σ:Store):Prop:=∃ n' ay,n'<n∧lB ks rg=some ay∧I n' ay σ
section
variable {P:Program}[Glob P]{N:Nat}{cfg:Nat→Nat}{Q:Exit→ah→Store→Prop}{K:ah→Store→Prop}{E:List PanicEntry→Store→Prop}{rg ay:ah}{σ af:Store}{l:List CI}{d:Nat}{op:aB}{p:Prop}{v:AV}
variable {al cf:List Nat}{ix:Nat}{ld:List CD}
theorem JV.intro{I:Nat→ah→Store→Prop}{n:Nat}{ks:List Nat}(hk:lB ks rg=some ay)(h:∃ n',n'<n∧I n' ay σ):JV I n ks rg σ:=h.elim fun n' h=>⟨n',ay,h.1,hk,h.2⟩
def yb(x:AV):Option (FuncId×Array Value×Array Value):=match x with
 | .v (.func (.func f) a c)=>some (f,a,c)
 |_=>none
theorem Fi{x:AV}{f:FuncId}{a c:Array Value}(h:yb x=some (f,a,c)):x= .v (.func (.func f) a c):=by
 unfold yb at h
 split at h
 ·cases h;rfl
 ·cases h
def kS(x:AV):Option (Nat×List (List AV)):=match x with
 | .sl _ e rows=>some (e,rows)
 | .own e _ _ _ _ rows=>some (e,rows)
 |_=>none
theorem wJ{x:AV}{e:Nat}{rows:List (List AV)}(h:kS x=some (e,rows)):(∃ nn,x= .sl nn e rows)∨∃ t b u c,x= .own e t b u c rows:=by
 unfold kS at h
 split at h
 ·simp_all
 ·simp_all
 grind
def gT(x:AV):Option Int:=match x with
 | .v (.int _ n)=>some n
 |_=>none
theorem qb{x:AV}{n:Int}(h:gT x=some n):∃ q,x= .v (.int q n):=by
 unfold gT at h
 split at h
 ·cases h;exact⟨_,rfl⟩
 ·cases h
end
theorem Fin.wk{fa σ:Store}{r x:AV}(h:Sub fa σ)(w:Wk x r):Fin fa r x σ:=⟨w,h⟩
theorem bt{p:Prop}[Decidable p](h:p):AV.v (.bool true)=AV.v (.bool (decide p)):=by rw[Zd h]
theorem bf{p:Prop}[Decidable p](h:¬p):AV.v (.bool false)=AV.v (.bool (decide p)):=by rw[ZA h]
end Go.Sx
