/-
  The layer Sx, fifteenth part: the region whose order is open, with new variables and stores.
-/
import Derived.Test.YthdeaajdmdmfnaaGreatDoorSxMix2
set_option linter.unusedVariables false
set_option linter.unusedSimpArgs false
set_option linter.unusedSectionVars false
namespace Go.Sx
open Go.RowKit
def Cl(K:ag→Store→Prop)(rg:ag)(σ:Store):Prop:=∃ ak σ',(∀ i,lk ak i=lk rg i)∧cE σ' σ∧K ak σ'
theorem Cl.intro{K:ag→Store→Prop}{rg:ag}{σ:Store}(h:K rg σ):Cl K rg σ:=⟨rg,σ,fun _=>rfl,cE.refl _,h⟩
theorem Cl.closed(K:ag→Store→Prop):rD (Cl K):=fun _ _ _ _ hr hs ⟨ak,σ',h1,h2,h3⟩=>⟨ak,σ',fun i=>(h1 i).trans (hr i),h2.trans hs,h3⟩
def TW(ops:Array Oper)(al:List Nat)(a c:CD):Prop:=gn ops a.ix c.ix=false∧(gn ops c.ix a.ix=true∨qj al a c=true∨zU ops 2 c.ix a.ix=true)
theorem Q9{ops:Array Oper}{al:List Nat}:∀ (l:List CD),ya ops al l=true→l.Pairwise (TW ops al)
 |[],_=> .nil
 |a::l,h=>by
  simp only[ya,Z8,Zz,YO,YF]at h
  exact .cons (fun c hc=>⟨(h.1.2 c hc).1,by
   grind⟩) (Q9 l h.2)
theorem Od{ops:Array Oper}{p:Nat→Bool}(hd:∀ i,p i=true→∀ j,gn ops i j=true→p j=true):∀ (n i j:Nat),(∀ b,gn ops i b=true→p b=true)→zU ops n i j=true→p j=true
 |0,i,j,hi,h=>hi j h
 |n+1,i,j,hi,h=>by
  rw[zU,YO]at h
  rcases h with h|h
  ·grind
  ·obtain⟨b,_,hb⟩:=Yp.1 h
   rw[Z8]at hb
   exact Od hd n b j (fun c hc=>hd b (hi b hb.1) c hc) hb.2
theorem Ra{ops:Array Oper}{al:List Nat}:∀ (l:List CD),ya ops al l=true→∀ x∈l,gn ops x.ix x.ix=false
 |[],_,x,hx=>by cases hx
 |a::l,h,x,hx=>by
  simp only[ya,Z8,YF]at h
  rcases ZK.1 hx with rfl|hx
  ·grind
  ·exact Ra l h.2 x hx
section
variable {P:Program}[Glob P]{M:Mem}{w0:Base}{σ:Store}{rg:ag}{cfg:Nat→Nat}{N:Nat}{al:List Nat}
theorem SZ{K K':ag→Store→Prop}(hk:∀ rg σ,K rg σ→K' rg σ):∀ (l:List CD) (rg:ag) (σ:Store),(∀ x∈l,iC x=true)→cZ P cfg al l K rg σ→cZ P cfg al l K' rg σ
 |[],rg,σ,_,h=>hk _ _ h
 |c::l,rg,σ,ho,h=>KU (ho c (by simp)) h fun y aJ _ hv=>SZ hk l _ aJ (fun x hx=>ho x (by simp[hx])) hv
theorem LD{l:List CD}{Q:Exit→ag→Store→Prop}(cfg:Nat→Nat)(Ψ:List CD→ag→Store→Prop)(h0:(∀ x∈l,iC x=true)→Ψ l rg σ)(z7:∀ rg σ,Ψ [] rg σ→Cl (Q .normal) rg σ)
  (acC:∀ (A:List CD) (x:CD) (B:List CD) (rg:ag) (σ:Store),(∀ a∈A++x::B,iC a=true)→(∀ a∈A,qj al a x=true)→Ψ (A++x::B) rg σ→
   ∃ ak σ',(∀ i,lk ak i=lk rg i)∧cE σ' σ∧cK P cfg x.c (fun y aJ=>Ψ (A++B) (bz x.c.d y rg) aJ) (fun ch σ'=>Q (.panic ch) [] σ') ak σ'):SW P N (.eA al l) Q rg σ:=by
 intro c hc M w0 a w hI hR hN hD
 obtain⟨id,ops,cl,rfl,bC,sF,cw,sE⟩:=eX hc
 obtain⟨hlen,C7⟩:=Ch ops.toList cl bC
 unfold DU at cw
 simp only[Z8,ZR,Y1]at cw
 obtain⟨⟨⟨⟨⟨hnd,pz⟩,ab2⟩,qD⟩,abV⟩,OP⟩:=cw
 have acx:=Ra l OP
 have pz:=ZF pz
 have IE:∀ x∈l,iC x=true:=Zz.1 qD
 have oe:=Q9 l OP
 have aw:∀ x∈l,x.ix<ops.size:=fun x hx=>by
  have:=(ZE.1 (sF x hx)).1
  rw[hlen]at this
  simpa using this
 have h':=h0 IE
 refine F8 sE ?_
 have main:∀ (fuel:Nat) (L:List CD) (listed:Array Bool) (a:Act) (w:World),listed.size=ops.size→L.length≤fuel→L.Sublist l→
   (∀ i,i<ops.size→(listed.getD i true=false↔∃ x∈L,x.ix=i))→(∀ i,listed.getD i false=true→∀ j,gn ops i j=true→listed.getD j false=true)→
   (∃ M2 bI aJ,M.le M2∧Inv P M2 w0 aJ w∧bQ M2 bI a∧a.tmps.size=N∧a.defers=Glob.df P∧Ψ L bI aJ)→
   wpAny P .any ops (jh P M w0 N Q) fuel listed a w:=by
  have fin:∀ (a:Act) (w:World),(∃ M2 bI aJ,M.le M2∧Inv P M2 w0 aJ w∧bQ M2 bI a∧a.tmps.size=N∧a.defers=Glob.df P∧Ψ [] bI aJ)→jh P M w0 N Q .normal a w:=by
   rintro a w ⟨M2,bI,aJ,g1,g2,g3,g4,g5,g6⟩
   obtain⟨eF,eo,k1,k2,k3⟩:=z7 _ _ g6
   exact⟨M2,eF,eo,g1,g2.perm k2.2.symm,fun i=>by rw[k1];exact g3 i,g4,g5,k3⟩
  intro fuel
  induction fuel with
  |zero=>
   intro L listed a w bg xv kB hL iS fb
   obtain rfl:L=[]:=Yd.1 (by omega)
   refine⟨?_,fin a w fb⟩
   unfold Region.ready
   rw[Yl]
   intro i hi
   have cD:i<ops.size:=by simpa using hi
   have:listed.getD i true=true:=by
    cases oa:listed.getD i true with
    |true=>rfl
    |false=>obtain⟨x,hx,_⟩:=(hL i cD).1 oa;cases hx
   simp[this]
  |succ fuel ih=>
   intro L listed a w bg xv kB hL iS fb
   have HU:∀ i,i<ops.size→listed.getD i false=listed.getD i true:=fun i hi=>by
    rw[ZT,ZT,ZN (by omega)];rfl
   refine⟨fun hr=> ?_,fun i hi=> ?_⟩
   ·cases L with
    |nil=>exact fin a w fb
    |cons x L=>
     exfalso
     have hx:=kB.subset (ZD)
     have cQ:=aw x hx
     have IM:=oe.sublist kB
     have:x.ix∈Region.ready .any ops listed:=by
      unfold Region.ready
      rw[Ze]
      refine⟨by simpa using cQ,?_⟩
      have oa:listed.getD x.ix true=false:=(hL x.ix cQ).2 ⟨x,by simp,rfl⟩
      simp only[oa,XC,Bool.true_and,ZN cQ,ZJ,Zp]
      rw[ZB]
      intro e he
      cases kU:Region.binds .any e with
      |false=>rfl
      |true=>
       have pB:e.on<ops.size:=by
        have h1:=ZB.1 abV _ (Yc cQ)
        have h2:=ZB.1 h1 e he
        simpa[kU]using h2
       have:listed.getD e.on true=true:=by
        cases hle:listed.getD e.on true with
        |true=>rfl
        |false=>
         exfalso
         obtain⟨y,hy,Pc⟩:=(hL e.on pB).1 hle
         have hE:gn ops x.ix y.ix=true:=by
          unfold gn
          rw[ZN cQ]
          simp only[XU,XH]
          obtain⟨m,hm,hme⟩:=Array.mem_iff_getElem.1 he
          exact⟨m,hm,by rw[hme,kU,Pc];simp⟩
         rcases ZK.1 hy with rfl|hy
         ·
          have:=(acx y hx)
          rw[this]at hE;cases hE
         ·have:=(List.rel_of_pairwise_cons IM hy).1
          rw[this]at hE;cases hE
       simp[HU e.on pB,this]
     rw[hr]at this
     cases this
   ·unfold Region.ready at hi
    rw[Ze]at hi
    obtain⟨qx,kq⟩:=hi
    have fm:i<ops.size:=by simpa using qx
    simp only[Z8,YF,ZN fm,ZJ,Zp]at kq
    obtain⟨gJ,xy⟩:=kq
    obtain⟨x,O8,rfl⟩:=(hL i fm).1 gJ
    obtain⟨A,B,rfl⟩:=List.append_of_mem O8
    have hx:=kB.subset O8
    obtain⟨M2,bI,aJ,g1,g2,g3,g4,g5,g6⟩:=fb
    have IM:=oe.sublist kB
    have OT:∀ b,gn ops x.ix b=true→listed.getD b false=true:=fun b hb=>by
     unfold gn at hb
     rw[ZN fm]at hb
     simp only[XU,XH,Z8,beq_iff_eq]at hb
     obtain⟨m,hm,lS,pB⟩:=hb
     have:=ZB.1 xy _ (Yc hm)
     rw[lS,pB]at this
     simpa using this
    have hA:∀ a∈A,qj al a x=true∧iC a=true:=by
     intro b hb
     refine⟨?_,IE b (kB.subset (by simp[hb]))⟩
     have hp:=(XD.1 IM).2.2 b hb x (by simp)
     rcases hp.2 with hE|hc|hR
     rotate_left 2
     ·exfalso
      have:=Od (p:=fun i=>listed.getD i false) iS 2 x.ix b.ix OT hR
      have kh:=aw b (kB.subset (by simp[hb]))
      try simp only at this
      rw[HU _ kh,(hL b.ix kh).2 ⟨b,by simp[hb],rfl⟩]at this
      cases this
     ·exfalso
      unfold gn at hE
      rw[ZN fm]at hE
      simp only[XU,XH,Z8,beq_iff_eq]at hE
      obtain⟨m,hm,lS,pB⟩:=hE
      have:=ZB.1 xy _ (Yc hm)
      rw[lS,pB]at this
      have kh:=aw b (kB.subset (by simp[hb]))
      rw[HU _ kh,(hL b.ix kh).2 ⟨b,by simp[hb],rfl⟩]at this
      simp at this
     ·exact hc
    obtain⟨rgq,σq,eq1,eq2,hq⟩:=acC A x B bI aJ (fun b hb=>IE b (kB.subset hb)) (fun b hb=>(hA b hb).1) g6
    have mR:qk P N ops ops[x.ix]=some x.c:=by
     have Oj:x.ix<cl.length:=by rw[hlen];simpa using fm
     have:=C7 x.ix (by simpa using fm) Oj
     have e:=sF x hx
     rw[Z1 Oj]at e
     have e:=YK e
     rw[← e]
     simpa using this
    obtain⟨ko,acm⟩:=zi mR
    unfold wpOp
    simp only[ZN fm]
    refine uy mR hq (g2.perm eq2.2.symm) (fun i=>by rw[eq1];exact g3 i) ⟨?_,fun M3 ch eo w' hM bp hk=>⟨M3,[],eo,g1.trans hM,bp,fun i=> .any _,g4,g5,hk⟩⟩
    rintro M3 y eo v w' hM bp hy hv
    have aco:((A++x::B).map (·.ix)).Nodup:=hnd.sublist (kB.map _)
    refine ih (A++B) _ _ _ (by simp[bg]) (by simp at xv ⊢;omega) (List.Sublist.trans (List.Sublist.append (List.Sublist.refl A) (List.sublist_cons_self x B)) kB) (fun j hj=> ?_) (fun i hi j gd=> ?_)
     ⟨M3,_,eo,g1.trans hM,bp,by rw[ko];exact(g3.mono hM).put _ (fun t ht=>by rw[g4];exact acm t (ko.trans ht)) hy,by rw[Act.size_put];exact g4,by rw[Act.zk];exact g5,hv⟩
    rotate_left
    ·have OM:∀ k,listed.getD k false=true→(listed.setIfInBounds x.ix true).getD k false=true:=fun k hk=>by
      rw[ZT]at hk ⊢
      rw[Zk]
      split
      ·rename_i e;subst e;simp[bg,fm]
      ·exact hk
     by_cases xR:x.ix=i
     ·subst xR;exact OM j (OT j gd)
     ·refine OM j (iS i ?_ j gd)
      rw[ZT,Zk,Z7 xR]at hi
      rw[ZT];exact hi
    have kz:∀ z∈A++B,z.ix≠x.ix:=by
     intro z hz e
     have hp:((x::(A++B)).map (·.ix)).Nodup:=(((List.perm_middle (a:=x) (l₁:=A) (l₂:=B)).map (·.ix)).nodup_iff).1 aco
     rw[Zv,Yy]at hp
     exact hp.1 (by rw[← e];exact Yk hz)
    by_cases il:x.ix=j
    ·subst il
     have e:(listed.setIfInBounds x.ix true).getD x.ix true=true:=by
      rw[ZT,Zk];simp[bg,fm]
     rw[e]
     exact⟨fun h=>(nomatch h),fun⟨z,hz,e⟩=>absurd e (kz z hz)⟩
    ·have e:(listed.setIfInBounds x.ix true).getD j true=listed.getD j true:=by
      rw[ZT,Zk,Z7 il,ZT]
     rw[e,hL j hj]
     constructor
     ·rintro⟨z,hz,rfl⟩
      refine⟨z,?_,rfl⟩
      rcases Zy.1 hz with hz|hz
      ·exact Zm _ hz
      ·rcases ZK.1 hz with rfl|hz
       ·exact absurd rfl il
       ·exact Y6 _ hz
     ·rintro⟨z,hz,rfl⟩
      refine⟨z,?_,rfl⟩
      rcases Zy.1 hz with hz|hz
      ·exact Zm _ hz
      ·exact Y6 _ (ZL _ hz)
 have ab3:∀ i,i<ops.size→∃ x∈l,x.ix=i:=fun i hi=>by
  have:=Zz.1 ab2 i (by simpa using hi)
  obtain⟨x,hx,e⟩:=Yp.1 this
  exact⟨x,hx,Z0 e⟩
 refine main ops.size l _ a _ (by simp) pz (List.Sublist.refl _) (fun i hi=> ?_) (fun i hi=> ?_) ⟨M,rg,σ,Mem.le.refl _,hI.eI,hR,hN,hD,h'⟩
 rotate_left
 ·exfalso
  rw[ZT,Array.getElem?_replicate]at hi
  split at hi<;>cases hi
 have e:(Array.replicate ops.size false).getD i true=false:=by simp[hi]
 exact⟨fun _=>ab3 i hi,fun _=>e⟩
theorem Fv{l:List CD}{Q:Exit→ag→Store→Prop}(cfg:Nat→Nat)(h:cZ P cfg al l (Q .normal) rg σ):SW P N (.eA al l) Q rg σ:=
 LD cfg (fun L rg σ=>cZ P cfg al L (Cl (Q .normal)) rg σ) (fun ho=>SZ (fun _ _=>Cl.intro) l rg σ ho h) (fun _ _ h=>h)
  fun A x B rg σ ho hA hv=>⟨rg,σ,fun _=>rfl,cE.refl _,SV (ho x (by simp)) (NB (Cl.closed _) (ho x (by simp)) A B rg σ (fun a ha=>⟨hA a ha,ho a (by simp[ha])⟩) (fun b hb=>ho b (by simp[hb])) hv)⟩
theorem yT{s:SC}{Q:Exit→ag→Store→Prop}(h:SW P N s (fun e=>Cl (Q e)) rg σ):SW P N s Q rg σ:=
 fun c hc M w0 a w hI hR hN hD=>zj (h c hc M w0 a w hI hR hN hD) fun _ _ _ ⟨M2,bI,aJ,h1,h2,h3,h4,h5,eF,eo,k1,k2,k3⟩=>
  ⟨M2,eF,eo,h1,h2.perm k2.2.symm,fun i=>by rw[k1];exact h3 i,h4,h5,k3⟩
def bare(l:List CI):List CD:=l.map fun c=>⟨0,c,[]⟩
theorem yB{K:ag→Store→Prop}:∀ (l:List CI) (rg ej:ag),(∀ i,lk rg i=lk ej i)→(∀ c∈l,c.op.cls≤1∨(c.op.cls=4∧c.g=none))→cZ P cfg [] (bare l) K rg σ→
  BD P cfg (fun ak=>K ak σ) l ej σ
 |[],rg,ej,he,_,h=>⟨[],rfl,⟨rg,h,he⟩,fun i h=>absurd h (by simp)⟩
 |c::l,rg,ej,he,hc,h=>by
  have h1:c.op.cls≤1:=by
   rcases hc c (by simp)with h1|⟨h1,h2⟩
   ·exact h1
   ·have h:cY P cfg [] ⟨0,c,[]⟩ (fun x σ'=>cZ P cfg [] (bare l) K (bz c.d x rg) σ') rg σ:=h
    unfold cY cy at h
    grind
  have ho:iC ⟨0,c,[]⟩=true:=by
   unfold iC
   have h2:Nat.ble c.op.cls 1=true:=Xj h1
   have h3:(Nat.ble c.op.cls 3 || isApp c.op)=true:=by rw[Xj (by omega)];rfl
   have h4:Nat.beq c.op.cls 2=false:=by rw[← Ya,Nat.beq_eq];omega
   grind
  obtain⟨x,hx,hv⟩:=zn (c:=⟨0,c,[]⟩) h1 h
  have hq:QV P cfg c rg σ x:=SV (c:=⟨0,c,[]⟩) (E:=fun _ _=>False) ho (hv σ (fun _ _ _ _ _ _ h=>h) (fun y s=>y=x∧s=σ) ⟨rfl,rfl⟩)
  obtain⟨xs,g1,g2,g3⟩:=yB l _ (bz c.d x ej) (x4 he c.d x) (fun c' h'=>hc c' (by simp[h'])) hx
  refine⟨x::xs,by simp[g1],g2,fun i hi cD=> ?_⟩
  cases i with
  |zero=>exact uc (fun t _=>he t) hq
  |succ i=>simpa[dA]using g3 i (by grind) (by grind)
theorem yC{K:ag→Store→Prop}:∀ (l:List CI) (rg:ag),(∀ c∈l,c.op.cls≤1∨(c.op.cls=4∧c.g=none))→cZ P cfg [] (bare l) K rg σ→∀ c∈l,c.op.cls≤1
 |[],_,_,_=>fun _ h=>by cases h
 |c::l,rg,hc,h=>by
  have h1:c.op.cls≤1:=by
   rcases hc c (by simp)with h1|⟨h1,h2⟩
   ·exact h1
   ·have h:cY P cfg [] ⟨0,c,[]⟩ (fun x σ'=>cZ P cfg [] (bare l) K (bz c.d x rg) σ') rg σ:=h
    unfold cY cy at h
    grind
  obtain⟨x,hx,_⟩:=zn (c:=⟨0,c,[]⟩) h1 h
  intro c' gb
  rcases ZK.1 gb with rfl|gb
  ·exact h1
  ·exact yC l _ (fun c h=>hc c (by simp[h])) hx c' gb
theorem Ly{l:List CI}{Q:Exit→ag→Store→Prop}(cfg:Nat→Nat)(h:cZ P cfg [] (bare l) (Cl (Q .normal)) rg σ):SW P N (.c8 l) Q rg σ:=
 yT (wH cfg fun hc=>⟨yB (K:=Cl (Q .normal)) l rg rg (fun _=>rfl) hc h,yC l rg hc h⟩)
theorem T2{l:List CD}{Q:Exit→ag→Store→Prop}(cfg:Nat→Nat)(h:cZ P cfg al l (Cl (Q .normal)) rg σ):SW P N (.eA al l) Q rg σ:=
 yT (Fv (Q:=fun e=>Cl (Q e)) cfg h)
end
inductive AC where
 |skip
 |aQ (l:List CI)
 |c8 (l:List CI)
 |eA (al:List Nat) (l:List CD)
 |seq (a b:AC)
 |cond (c:Operand) (t e:AC)
 |block (id:Nat) (b:AC)
 |loop (b:AC)
 |exit (id:Nat)
 |ret
 |scope (b:AC)
 |label (l:Nat)
 |goto (l:Nat)
 |az (ks:List Nat) (a:AC)
 |stop (a:AC)
def AC.erase:AC→SC
 | .skip=> .skip
 | .aQ l=> .aQ l
 | .c8 l=> .c8 l
 | .eA al l=> .eA al l
 | .seq a b=> .seq a.erase b.erase
 | .cond c t e=> .cond c t.erase e.erase
 | .block id b=> .block id b.erase
 | .loop b=> .loop b.erase
 | .exit id=> .exit id
 | .ret=> .ret
 | .scope b=> .scope b.erase
 | .label l=> .label l
 | .goto l=> .goto l
 | .az _ a=>a.erase
 | .stop a=>a.erase
def Stop(P:Program)[Glob P](N:Nat)(a:AC)(Q:Exit→ag→Store→Prop)(rg:ag)(σ:Store):Prop:=SW P N a.erase Q rg σ
def pY(P:Program)[Glob P](N:Nat)(cfg:Nat→Nat):AC→(Exit→ag→Store→Prop)→ag→Store→Prop
 | .skip,Q,rg,σ=>Q .normal rg σ
 | .aQ l,Q,rg,σ=>jX P cfg l (Q .normal) (fun ch σ'=>Q (.panic ch) [] σ') rg σ
 | .c8 l,Q,rg,σ=>oO P cfg l (fun ak=>Q .normal ak σ) rg σ
 | .eA al l,Q,rg,σ=>cZ P cfg al l (Q .normal) rg σ
 | .seq a b,Q,rg,σ=>pY P N cfg a (pV (pY P N cfg b Q) Q) rg σ
 | .cond c t e,Q,rg,σ=>match ev rg c with
  | .v (.bool b)=>Gd b true (pY P N cfg t Q rg σ) (pY P N cfg e Q rg σ)
  |_=>False
 | .block id b,Q,rg,σ=>pY P N cfg b (nL id Q) rg σ
 | .loop b,Q,rg,σ=>Stop P N (.loop b) Q rg σ
 | .exit id,Q,rg,σ=>Q (.exit id) rg σ
 | .ret,Q,rg,σ=>Q .ret rg σ
 | .scope b,Q,rg,σ=>Stop P N (.scope b) Q rg σ
 | .label l,Q,rg,σ=>Q .normal rg σ
 | .goto l,Q,rg,σ=>Q (.goto l) rg σ
 | .az ks a,Q,rg,σ=>pY P N cfg a Q (ep ks rg) σ
 | .stop a,Q,rg,σ=>Stop P N a Q rg σ
theorem tQ{P:Program}[Glob P]{N:Nat}(cfg:Nat→Nat):∀ (a:AC) (Q:Exit→ag→Store→Prop) (rg:ag) (σ:Store),pY P N cfg a Q rg σ→SW P N a.erase Q rg σ
 | .skip,Q,rg,σ,h=>Fx h
 | .aQ l,Q,rg,σ,h=>LG cfg h
 | .c8 l,Q,rg,σ,h=>TY cfg h
 | .eA al l,Q,rg,σ,h=>Fv cfg h
 | .seq a b,Q,rg,σ,h=>yU ((tQ cfg a _ rg σ h).mono fun e ak σ' he=>by
   cases e with
   |normal=>exact tQ cfg b Q ak σ' he
   |_=>exact he)
 | .cond c t e,Q,rg,σ,h=>by
  simp only[pY]at h
  split at h
  ·rename_i b hb
   exact BR hb (fun hb=>tQ cfg t Q rg σ (h.l hb)) (fun hb=>tQ cfg e Q rg σ (h.r hb))
  grind
 | .block id b,Q,rg,σ,h=>yS (tQ cfg b _ rg σ h)
 | .loop b,Q,rg,σ,h=>h
 | .exit id,Q,rg,σ,h=>Fs h
 | .ret,Q,rg,σ,h=>Fw h
 | .scope b,Q,rg,σ,h=>h
 | .label l,Q,rg,σ,h=>LC h
 | .goto l,Q,rg,σ,h=>LB h
 | .az ks a,Q,rg,σ,h=>SW.ep ks (tQ cfg a Q _ σ h)
 | .stop a,Q,rg,σ,h=>h
theorem Stop.run{P:Program}[Glob P]{N:Nat}(cfg:Nat→Nat){a:AC}{Q:Exit→ag→Store→Prop}{rg:ag}{σ:Store}(h:pY P N cfg a Q rg σ):Stop P N a Q rg σ:=tQ cfg a Q rg σ h
theorem Stop.loop{P:Program}[Glob P]{N:Nat}{b:AC}{Q:Exit→ag→Store→Prop}{rg:ag}{σ:Store}(cfg:Nat→Nat)(I:Nat→ag→Store→Prop)(n:Nat)(h0:I n rg σ)
  (h:∀ n rg σ,I n rg σ→pY P N cfg b (pV (fun ak σ'=>∃ n',n'<n∧I n' ak σ') Q) rg σ):Stop P N (.loop b) Q rg σ:=
 Fu I n h0 fun n rg σ hi=>tQ cfg b _ rg σ (h n rg σ hi)
theorem Stop.mono{P:Program}[Glob P]{N:Nat}{a:AC}{Q Q':Exit→ag→Store→Prop}{rg:ag}{σ:Store}(h:Stop P N a Q rg σ)(hq:∀ e rg σ,Q e rg σ→Q' e rg σ):Stop P N a Q' rg σ:=SW.mono h hq
theorem stop_congr{P:Program}[Glob P]{N:Nat}{a:AC}{Q:Exit→ag→Store→Prop}{rg ak:ag}{σ σ':Store}(h:rg=ak)(k:σ=σ'):Stop P N a Q rg σ=Stop P N a Q ak σ':=by rw[h,k]
attribute [congr] stop_congr
attribute [congr] callP_congr
attribute [congr] qcall_congr
structure WA(P:Program)[Glob P](N:Nat)(cfg:Nat→Nat)(a:AC)(Q:Exit→ag→Store→Prop)(rg:ag)(σ:Store):Prop where
 c:cfg=cfg
 h:SW P N a.erase Q rg σ
def kP:List Nat→ag→Option ag
 |[],_=>some []
 |k::ks,rg=>fo (lk rg k) fun x=>match kP ks rg with
  |some l=>some ((k,x)::l)
  |none=>none
theorem Cy:∀ {ks:List Nat} {rg l:ag},kP ks rg=some l→ep ks rg=l
 |[],_,_,h=>by cases h;rfl
 |k::ks,rg,l,h=>by
  have h:=iN h
  split at h
  ·rename_i l' h';cases h;simp only[ep,Cy h']
  grind
def Gh(rg:ag):List Operand→Option (List AV)
 |[]=>some []
 |x::l=>fo (ev rg x) fun v=>match Gh rg l with
  |some vs=>some (v::vs)
  |none=>none
theorem MX{rg:ag}:∀ {l:List Operand} {vs:List AV},Gh rg l=some vs→aL rg l=vs
 |[],_,h=>by cases h;rfl
 |x::l,vs,h=>by
  have h:=iN h
  split at h
  ·rename_i l' h';cases h;simp only[aL,MX h']
  grind
def zb(rg:ag)(x:Operand):Option Bool:=match ev rg x with
 | .v (.bool b)=>some b
 |_=>none
theorem Ws{rg:ag}{x:Operand}{b:Bool}(h:zb rg x=some b):ev rg x= .v (.bool b):=by
 unfold zb at h
 grind
section
variable {P:Program}[Glob P]{N:Nat}{cfg:Nat→Nat}{Q:Exit→ag→Store→Prop}{K:ag→Store→Prop}{E:List PanicEntry→Store→Prop}{rg ak:ag}{σ σ':Store}{l:List CI}{d:Option Nat}{op:ax}{p:Prop}{v:AV}
theorem Vc{a b:AC}(h:WA P N cfg a (pV (fun rg σ=>WA P N cfg b Q rg σ) Q) rg σ):WA P N cfg (.seq a b) Q rg σ:=
 ⟨rfl,yU (h.h.mono fun e ak σ' he=>by
  cases e with
  |normal=>exact he.h
  |_=>exact he)⟩
theorem Vd(h:Q .normal rg σ):WA P N cfg .skip Q rg σ:=⟨rfl,Fx h⟩
theorem Vb(h:Q .ret rg σ):WA P N cfg .ret Q rg σ:=⟨rfl,Fw h⟩
theorem U6{id:Nat}(h:Q (.exit id) rg σ):WA P N cfg (.exit id) Q rg σ:=⟨rfl,Fs h⟩
theorem U4{x:Operand}{a b:AC}{c:Bool}(hx:zb rg x=some c)(h1:c=true→WA P N cfg a Q rg σ)(h2:c=false→WA P N cfg b Q rg σ):WA P N cfg (.cond x a b) Q rg σ:=⟨rfl,BR (Ws hx) (fun e=>(h1 e).h) (fun e=>(h2 e).h)⟩
theorem U3{id:Nat}{a:AC}(h:WA P N cfg a (nL id Q) rg σ):WA P N cfg (.block id a) Q rg σ:=⟨rfl,yS h.h⟩
theorem LS{ks:List Nat}{a:AC}(hk:kP ks rg=some ak)(h:WA P N cfg a Q ak σ):WA P N cfg (.az ks a) Q rg σ:=⟨rfl,SW.ep ks (by rw[Cy hk];exact h.h)⟩
theorem U7{a:AC}(I:Nat→ag→Store→Prop)(n:Nat)(h0:I n rg σ)(h:∀ n rg σ,I n rg σ→WA P N cfg a (pV (fun ak σ'=>∃ n',n'<n∧I n' ak σ') Q) rg σ):WA P N cfg (.loop a) Q rg σ:=
 ⟨rfl,Fu I n h0 fun n rg σ hi=>(h n rg σ hi).h⟩
theorem WA.mono{a:AC}{Q':Exit→ag→Store→Prop}(h:WA P N cfg a Q rg σ)(hq:∀ e rg σ,Q e rg σ→Q' e rg σ):WA P N cfg a Q' rg σ:=⟨rfl,h.h.mono hq⟩
theorem Wo{id pJ:Nat}(e:Nat.beq pJ id=true)(h:Q .normal rg σ):nL id Q (.exit pJ) rg σ:=by simp only[nL];simp_all
theorem Wn{id pJ:Nat}(e:Nat.beq pJ id=false)(h:Q (.exit pJ) rg σ):nL id Q (.exit pJ) rg σ:=by
 simp only[nL];rw[Z7 (fun k=>by simp_all)];grind
def Fin(eV:Store)(r:AV)(x:AV)(σ:Store):Prop:=Wk x r∧Sub eV σ
theorem Fin.intro{eV:Store}{r x:AV}(h:Sub eV σ)(e:x=r):Fin eV r x σ:=⟨Wk.D5 e,h⟩
def wU(x:AV):Option (List AV):=match x.cells? with
 |some l=>j8 l some
 |none=>none
theorem Mr{x:AV}{l:List AV}(h:wU x=some l):x.cells? =some l:=by
 unfold wU at h
 split at h
 ·rename_i e;have h:=jJ h;cases h;exact e
 ·cases h
variable {al cf:List Nat}{ix:Nat}{ld:List CD}
def QZ(al cf:List Nat)(rg:ag):ax→Bool
 | .load a n x=>mh al cf rg (.load a n x)
 | .store n x y=>nw al cf rg (.store n x y)
 | .box .. | .alloc .. | .append .. | .exts .. | .panic .. =>false
 |_=>true
theorem MF{cfg:Nat→Nat}(hc:op.cls=0)(h:c6 cfg d rg σ op=some (p,v,σ')):σ'=σ:=by
 cases op
 case load=>cases hc
 case store=>cases hc
 case alloc=>cases hc
 case box=>cases hc
 case append=>cases hc
 case exts=>cases hc
 case panic=>cases hc
 case len s x=>cases s<;>(simp only[c6]at h;grind)<;>cases h<;>rfl
 all_goals simp only[c6,reduceCtorEq]at h
 all_goals(repeat' split at h)
 all_goals first
  |grind
  |grind
  |(have:=iN h;grind)
  |(have:=jJ h;grind)
  |(have:=uw h;cases this;rfl)
  |(have h2:=(sZ h).2;(repeat' split at h2)<;>first|(cases h2;done)|(cases h2;rfl)|(have:=iN h2;cases this;rfl)|(have:=jJ h2;cases this;rfl))
theorem aat{K:AV→Prop}(hc:op.cls=0)(h:c6 cfg d rg σ op=some (p,v,σ'))(hp:p)(k:K v):aK P cfg d rg σ K op:=by
 have hs:=Co (P:=P) (K:=fun x _=>K x) (E:=fun _ _=>False) h hp k
 cases op with
 |dF t ah parts=>
  simp only[aK]
  simp only[c6]at h
  split at h
  ·split at h
   ·have:=uw h;grind
   ·have:=uw h;grind
   grind
  grind
 |len s x=>
  cases s with
  |true=>exact hs
  |false=>
   simp only[aK]
   simp only[c6]at h
   split at h
   ·grind
   ·grind
   ·grind
   ·grind
   grind
 |call f args=>cases h
 |fD f args=>cases h
 |cu op ty ti args=>cases h
 |exts op ty ti args=>cases hc
 |panic x=>cases hc
 |box t x=>cases hc
 |alloc t x=>cases hc
 |store n t x=>cases hc
 |append t n k z x y=>cases hc
 |load a n x=>cases hc
 |_=>exact hs
end
section
variable {P:Program}[Glob P]{cfg:Nat→Nat}{K:ag→Store→Prop}{E:List PanicEntry→Store→Prop}{rg:ag}{σ:Store}{l:List CI}{d:Option Nat}{op:ax}{al cf:List Nat}{ix:Nat}{ld:List CD}
end
theorem Pure.run{P:Program}[Glob P][gO P]{f:FuncId}{fn:Func}{fc:FC}{as:List AV}{r:AV}{a:AC}(cfg:Nat→Nat)(hf:P.funcs[f]? =some fn)(hc:j6 P fn=some fc)(ha:fc.code=a.erase)(hlen:as.length≤fc.N)
  (h:∀ σ,WA P fc.N cfg a (mr fc.res r σ) (fi 0 as) σ):Pure P f as r:=
 Pure.intro hf hc hlen fun σ=>by rw[ha];exact(h σ).h
theorem Spec.run{P:Program}[Glob P][gO P]{f:FuncId}{fn:Func}{fc:FC}{as:List AV}{σ:Store}{Q:gP→Store→Prop}{a:AC}(cfg:Nat→Nat)(hf:P.funcs[f]? =some fn)(hc:j6 P fn=some fc)(ha:fc.code=a.erase)(hlen:as.length≤fc.N)
  (h:WA P fc.N cfg a (lq fc.res Q) (fi 0 as) σ):Spec P f as σ Q:=
 Spec.intro hf hc hlen (by rw[ha];exact h.h)
def Lr(I:Nat→ag→Store→Prop)(n:Nat)(ks:List Nat)(rg:ag)(σ:Store):Prop:=∃ n' ak,n'<n∧kP ks rg=some ak∧I n' ak σ
section
variable {P:Program}[Glob P]{N:Nat}{cfg:Nat→Nat}{Q:Exit→ag→Store→Prop}{K:ag→Store→Prop}{E:List PanicEntry→Store→Prop}{rg ak:ag}{σ σ':Store}{l:List CI}{d:Nat}{op:ax}{p:Prop}{v:AV}
variable {al cf:List Nat}{ix:Nat}{ld:List CD}
theorem Lr.intro{I:Nat→ag→Store→Prop}{n:Nat}{ks:List Nat}(hk:kP ks rg=some ak)(h:∃ n',n'<n∧I n' ak σ):Lr I n ks rg σ:=h.elim fun n' h=>⟨n',ak,h.1,hk,h.2⟩
def zx(x:AV):Option (FuncId×Array Value×Array Value):=match x with
 | .v (.func (.func f) a c)=>some (f,a,c)
 |_=>none
theorem GJ{x:AV}{f:FuncId}{a c:Array Value}(h:zx x=some (f,a,c)):x= .v (.func (.func f) a c):=by
 unfold zx at h
 split at h
 ·cases h;rfl
 ·cases h
def lr(x:AV):Option (Nat×List (List AV)):=match x with
 | .sl _ e rows=>some (e,rows)
 | .own e _ _ _ _ rows=>some (e,rows)
 |_=>none
theorem yi{x:AV}{e:Nat}{rows:List (List AV)}(h:lr x=some (e,rows)):(∃ nn,x= .sl nn e rows)∨∃ t b u c,x= .own e t b u c rows:=by
 unfold lr at h
 split at h
 ·simp_all
 ·simp_all
 grind
def iz(x:AV):Option Int:=match x with
 | .v (.int _ n)=>some n
 |_=>none
theorem qI{x:AV}{n:Int}(h:iz x=some n):∃ q,x= .v (.int q n):=by
 unfold iz at h
 split at h
 ·cases h;exact⟨_,rfl⟩
 ·cases h
end
theorem Fin.wk{eV σ:Store}{r x:AV}(h:Sub eV σ)(w:Wk x r):Fin eV r x σ:=⟨w,h⟩
theorem bt{p:Prop}[Decidable p](h:p):AV.v (.bool true)=AV.v (.bool (decide p)):=by rw[YJ h]
theorem bf{p:Prop}[Decidable p](h:¬p):AV.v (.bool false)=AV.v (.bool (decide p)):=by rw[Zh h]
end Go.Sx
