/-
  The layer Sx, fifteenth part: the region whose order is open, with new variables and stores.
-/
import Derived.Test.YtbihckigennlhaaGreatDoorSxMix2
set_option linter.unusedVariables false
set_option linter.unusedSimpArgs false
set_option linter.unusedSectionVars false
namespace Go.Sx
open Go.RowKit
def Cl(K:ae→Store→Prop)(rg:ae)(σ:Store):Prop:=∃ ao σ',(∀ i,lk ao i=lk rg i)∧cV σ' σ∧K ao σ'
theorem Cl.intro{K:ae→Store→Prop}{rg:ae}{σ:Store}(h:K rg σ):Cl K rg σ:=⟨rg,σ,fun _=>rfl,cV.refl _,h⟩
theorem Cl.closed(K:ae→Store→Prop):vz (Cl K):=fun _ _ _ _ hr hs ⟨ao,σ',h1,h2,h3⟩=>⟨ao,σ',fun i=>(h1 i).trans (hr i),h2.trans hs,h3⟩
def Ob(ops:Array Oper)(ah:List Nat)(a c:CD):Prop:=fj ops a.ix c.ix=false∧(fj ops c.ix a.ix=true∨iO ah a c=true∨wG ops 2 c.ix a.ix=true)
theorem Lk{ops:Array Oper}{ah:List Nat}:∀ (l:List CD),uR ops ah l=true→l.Pairwise (Ob ops ah)
 |[],_=> .nil
 |a::l,h=>by
  simp only[uR,Z3,ZJ,Zk,Y4]at h
  exact .cons (fun c hc=>⟨(h.1.2 c hc).1,by
   rcases(h.1.2 c hc).2 with(k|k)|k
   ·exact .inl k
   ·exact .inr (.inl k)
   ·exact .inr (.inr k.2)⟩) (Lk l h.2)
theorem Ji{ops:Array Oper}{p:Nat→Bool}(hd:∀ i,p i=true→∀ j,fj ops i j=true→p j=true):∀ (n i j:Nat),(∀ b,fj ops i b=true→p b=true)→wG ops n i j=true→p j=true
 |0,i,j,hi,h=>hi j h
 |n+1,i,j,hi,h=>by
  rw[wG,Zk]at h
  rcases h with h|h
  ·exact hi j h
  ·obtain⟨b,_,hb⟩:=Yn.1 h
   rw[Z3]at hb
   exact Ji hd n b j (fun c hc=>hd b (hi b hb.1) c hc) hb.2
theorem Ll{ops:Array Oper}{ah:List Nat}:∀ (l:List CD),uR ops ah l=true→∀ x∈l,fj ops x.ix x.ix=false
 |[],_,x,hx=>by cases hx
 |a::l,h,x,hx=>by
  simp only[uR,Z3,Y4]at h
  rcases ZU.1 hx with rfl|hx
  ·exact h.1.1
  ·exact Ll l h.2 x hx
section
variable {P:Program}[Glob P]{M:Mem}{w0:Base}{σ:Store}{rg:ae}{cfg:Nat→Nat}{N:Nat}{ah:List Nat}
theorem E6{K K':ae→Store→Prop}(hk:∀ rg σ,K rg σ→K' rg σ):∀ (l:List CD) (rg:ae) (σ:Store),(∀ x∈l,fy x=true)→cx P cfg ah l K rg σ→cx P cfg ah l K' rg σ
 |[],rg,σ,_,h=>hk _ _ h
 |c::l,rg,σ,ho,h=>yc (ho c (by simp)) h fun y aw _ hv=>E6 hk l _ aw (fun x hx=>ho x (by simp[hx])) hv
theorem F5{l:List CD}{Q:Exit→ae→Store→Prop}(cfg:Nat→Nat)(Ψ:List CD→ae→Store→Prop)(h0:(∀ x∈l,fy x=true)→Ψ l rg σ)(U0:∀ rg σ,Ψ [] rg σ→Cl (Q .normal) rg σ)
  (V3:∀ (A:List CD) (x:CD) (B:List CD) (rg:ae) (σ:Store),(∀ a∈A++x::B,fy a=true)→(∀ a∈A,iO ah a x=true)→Ψ (A++x::B) rg σ→
   ∃ ao σ',(∀ i,lk ao i=lk rg i)∧cV σ' σ∧cT P cfg x.c (fun y aw=>Ψ (A++B) (bM x.c.d y rg) aw) (fun ch σ'=>Q (.panic ch) [] σ') ao σ'):SW P N (.c8 ah l) Q rg σ:=by
 intro c hc M w0 a w hI hR hN hD
 obtain⟨id,ops,cl,rfl,bI,uf,bu,ob⟩:=dF hc
 obtain⟨hlen,zA⟩:=yH ops.toList cl bI
 unfold Aa at bu
 simp only[Z3,ZG]at bu
 obtain⟨⟨⟨⟨⟨hnd,oi⟩,US⟩,uk⟩,UL⟩,JU⟩:=bu
 have VW:=Ll l JU
 have oi:=Z9 oi
 have Dj:∀ x∈l,fy x=true:=ZJ.1 uk
 have lJ:=Lk l JU
 have aE:∀ x∈l,x.ix<ops.size:=fun x hx=>by
  have:=(ZP.1 (uf x hx)).1
  rw[hlen]at this
  simpa using this
 have h':=h0 Dj
 refine B9 ob ?_
 have main:∀ (fuel:Nat) (L:List CD) (listed:Array Bool) (a:Act) (w:World),listed.size=ops.size→L.length≤fuel→L.Sublist l→
   (∀ i,i<ops.size→(listed.getD i true=false↔∃ x∈L,x.ix=i))→(∀ i,listed.getD i false=true→∀ j,fj ops i j=true→listed.getD j false=true)→
   (∃ M2 bP aw,M.le M2∧Inv P M2 w0 aw w∧bB M2 bP a∧a.tmps.size=N∧a.defers=Glob.df P∧Ψ L bP aw)→
   wpAny P .any ops (gg P M w0 N Q) fuel listed a w:=by
  have fin:∀ (a:Act) (w:World),(∃ M2 bP aw,M.le M2∧Inv P M2 w0 aw w∧bB M2 bP a∧a.tmps.size=N∧a.defers=Glob.df P∧Ψ [] bP aw)→gg P M w0 N Q .normal a w:=by
   rintro a w ⟨M2,bP,aw,g1,g2,g3,g4,g5,g6⟩
   obtain⟨dL,di,k1,k2,k3⟩:=U0 _ _ g6
   exact⟨M2,dL,di,g1,g2.perm k2.2.symm,fun i=>by rw[k1];exact g3 i,g4,g5,k3⟩
  intro fuel
  induction fuel with
  |zero=>
   intro L listed a w aT tY bO hL CY dW
   obtain rfl:L=[]:=List.length_eq_zero_iff.1 (by omega)
   refine⟨?_,fin a w dW⟩
   unfold Region.ready
   rw[YB]
   intro i hi
   have cz:i<ops.size:=by simpa using hi
   have:listed.getD i true=true:=by
    cases lH:listed.getD i true with
    |true=>rfl
    |false=>obtain⟨x,hx,_⟩:=(hL i cz).1 lH;cases hx
   simp[this]
  |succ fuel ih=>
   intro L listed a w aT tY bO hL CY dW
   have CU:∀ i,i<ops.size→listed.getD i false=listed.getD i true:=fun i hi=>by
    rw[Z4,Z4,ZQ (by omega)];rfl
   refine⟨fun hr=> ?_,fun i hi=> ?_⟩
   ·cases L with
    |nil=>exact fin a w dW
    |cons x L=>
     exfalso
     have hx:=bO.subset (ZR)
     have nc:=aE x hx
     have Ds:=lJ.sublist bO
     have:x.ix∈Region.ready .any ops listed:=by
      unfold Region.ready
      rw[Y9]
      refine⟨by simpa using nc,?_⟩
      have lH:listed.getD x.ix true=false:=(hL x.ix nc).2 ⟨x,by simp,rfl⟩
      simp only[lH,X4,Bool.true_and,ZQ nc,Zy,ZI]
      rw[ZN]
      intro e he
      cases jr:Region.binds .any e with
      |false=>rfl
      |true=>
       have mW:e.on<ops.size:=by
        have h1:=ZN.1 UL _ (YE nc)
        have h2:=ZN.1 h1 e he
        simpa[jr]using h2
       have:listed.getD e.on true=true:=by
        cases hle:listed.getD e.on true with
        |true=>rfl
        |false=>
         exfalso
         obtain⟨y,hy,Wr⟩:=(hL e.on mW).1 hle
         have hE:fj ops x.ix y.ix=true:=by
          unfold fj
          rw[ZQ nc]
          simp only[Yh]
          obtain⟨m,hm,Vv⟩:=Array.mem_iff_getElem.1 he
          exact⟨m,hm,by rw[Vv,jr,Wr];simp⟩
         rcases ZU.1 hy with rfl|hy
         ·
          have:=(VW y hx)
          rw[this]at hE;cases hE
         ·have:=(List.rel_of_pairwise_cons Ds hy).1
          rw[this]at hE;cases hE
       simp[CU e.on mW,this]
     rw[hr]at this
     cases this
   ·unfold Region.ready at hi
    rw[Y9]at hi
    obtain⟨rD,mO⟩:=hi
    have eY:i<ops.size:=by simpa using rD
    simp only[Z3,Y4,ZQ eY,Zy,ZI]at mO
    obtain⟨oo,ub⟩:=mO
    obtain⟨x,Kb,rfl⟩:=(hL i eY).1 oo
    obtain⟨A,B,rfl⟩:=List.append_of_mem Kb
    have hx:=bO.subset Kb
    obtain⟨M2,bP,aw,g1,g2,g3,g4,g5,g6⟩:=dW
    have Ds:=lJ.sublist bO
    have JX:∀ b,fj ops x.ix b=true→listed.getD b false=true:=fun b hb=>by
     unfold fj at hb
     rw[ZQ eY]at hb
     simp only[Yh,Z3,beq_iff_eq]at hb
     obtain⟨m,hm,tU,mW⟩:=hb
     have:=ZN.1 ub _ (YE hm)
     rw[tU,mW]at this
     simpa using this
    have hA:∀ a∈A,iO ah a x=true∧fy a=true:=by
     intro b hb
     refine⟨?_,Dj b (bO.subset (by simp[hb]))⟩
     have hp:=(List.pairwise_append.1 Ds).2.2 b hb x (by simp)
     rcases hp.2 with hE|hc|hR
     rotate_left 2
     ·exfalso
      have:=Ji (p:=fun i=>listed.getD i false) CY 2 x.ix b.ix JX hR
      have il:=aE b (bO.subset (by simp[hb]))
      try simp only at this
      rw[CU _ il,(hL b.ix il).2 ⟨b,by simp[hb],rfl⟩]at this
      cases this
     ·exfalso
      unfold fj at hE
      rw[ZQ eY]at hE
      simp only[Yh,Z3,beq_iff_eq]at hE
      obtain⟨m,hm,tU,mW⟩:=hE
      have:=ZN.1 ub _ (YE hm)
      rw[tU,mW]at this
      have il:=aE b (bO.subset (by simp[hb]))
      rw[CU _ il,(hL b.ix il).2 ⟨b,by simp[hb],rfl⟩]at this
      simp at this
     ·exact hc
    obtain⟨rgq,σq,SM,SN,hq⟩:=V3 A x B bP aw (fun b hb=>Dj b (bO.subset hb)) (fun b hb=>(hA b hb).1) g6
    have mL:nT P N ops ops[x.ix]=some x.c:=by
     have tX:x.ix<cl.length:=by rw[hlen];simpa using eY
     have:=zA x.ix (by simpa using eY) tX
     have e:=uf x hx
     rw[Z1 tX]at e
     have e:=Zc e
     rw[← e]
     simpa using this
    obtain⟨iu,Vr⟩:=vY mL
    unfold wpOp
    simp only[ZQ eY]
    refine qU mL hq (g2.perm SN.2.symm) (fun i=>by rw[SM];exact g3 i) ⟨?_,fun M3 ch di w' hM bo hk=>⟨M3,[],di,g1.trans hM,bo,fun i=> .any _,g4,g5,hk⟩⟩
    rintro M3 y di v w' hM bo hy hv
    have VC:((A++x::B).map (·.ix)).Nodup:=hnd.sublist (bO.map _)
    refine ih (A++B) _ _ _ (by simp[aT]) (by simp at tY ⊢;omega) (List.Sublist.trans (List.Sublist.append (List.Sublist.refl A) (List.sublist_cons_self x B)) bO) (fun j hj=> ?_) (fun i hi j fW=> ?_)
     ⟨M3,_,di,g1.trans hM,bo,by rw[iu];exact(g3.mono hM).put _ (fun t ht=>by rw[g4];exact Vr t (iu.trans ht)) hy,by rw[Act.size_put];exact g4,by rw[Act.v8];exact g5,hv⟩
    rotate_left
    ·have JN:∀ k,listed.getD k false=true→(listed.setIfInBounds x.ix true).getD k false=true:=fun k hk=>by
      rw[Z4]at hk ⊢
      rw[ZE]
      split
      ·rename_i e;subst e;simp[aT,eY]
      ·exact hk
     by_cases zT:x.ix=i
     ·subst zT;exact JN j (JX j fW)
     ·refine JN j (CY i ?_ j fW)
      rw[Z4,ZE,if_neg zT]at hi
      rw[Z4];exact hi
    have mV:∀ z∈A++B,z.ix≠x.ix:=by
     intro z hz e
     have hp:((x::(A++B)).map (·.ix)).Nodup:=(((Yq (a:=x) (l₁:=A) (l₂:=B)).map (·.ix)).nodup_iff).1 VC
     rw[ZL,YL]at hp
     exact hp.1 (by rw[← e];exact YW hz)
    by_cases mQ:x.ix=j
    ·subst mQ
     have e:(listed.setIfInBounds x.ix true).getD x.ix true=true:=by
      rw[Z4,ZE];simp[aT,eY]
     rw[e]
     exact⟨fun h=>(nomatch h),fun⟨z,hz,e⟩=>absurd e (mV z hz)⟩
    ·have e:(listed.setIfInBounds x.ix true).getD j true=listed.getD j true:=by
      rw[Z4,ZE,if_neg mQ,Z4]
     rw[e,hL j hj]
     constructor
     ·rintro⟨z,hz,rfl⟩
      refine⟨z,?_,rfl⟩
      rcases Zl.1 hz with hz|hz
      ·exact ZC _ hz
      ·rcases ZU.1 hz with rfl|hz
       ·exact absurd rfl mQ
       ·exact Zp _ hz
     ·rintro⟨z,hz,rfl⟩
      refine⟨z,?_,rfl⟩
      rcases Zl.1 hz with hz|hz
      ·exact ZC _ hz
      ·exact Zp _ (ZX _ hz)
 have UT:∀ i,i<ops.size→∃ x∈l,x.ix=i:=fun i hi=>by
  have:=ZJ.1 US i (by simpa using hi)
  obtain⟨x,hx,e⟩:=Yn.1 this
  exact⟨x,hx,ZM e⟩
 refine main ops.size l _ a _ (by simp) oi (List.Sublist.refl _) (fun i hi=> ?_) (fun i hi=> ?_) ⟨M,rg,σ,Mem.le.refl _,hI.jJ,hR,hN,hD,h'⟩
 rotate_left
 ·exfalso
  rw[Z4,Array.getElem?_replicate]at hi
  split at hi<;>cases hi
 have e:(Array.replicate ops.size false).getD i true=false:=by simp[hi]
 exact⟨fun _=>UT i hi,fun _=>e⟩
theorem F4{l:List CD}{Q:Exit→ae→Store→Prop}(cfg:Nat→Nat)(h:cx P cfg ah l (Q .normal) rg σ):SW P N (.c8 ah l) Q rg σ:=
 F5 cfg (fun L rg σ=>cx P cfg ah L (Cl (Q .normal)) rg σ) (fun ho=>E6 (fun _ _=>Cl.intro) l rg σ ho h) (fun _ _ h=>h)
  fun A x B rg σ ho hA hv=>⟨rg,σ,fun _=>rfl,cV.refl _,A8 (ho x (by simp)) (yV (Cl.closed _) (ho x (by simp)) A B rg σ (fun a ha=>⟨hA a ha,ho a (by simp[ha])⟩) (fun b hb=>ho b (by simp[hb])) hv)⟩
theorem yu{s:SC}{Q:Exit→ae→Store→Prop}(h:SW P N s (fun e=>Cl (Q e)) rg σ):SW P N s Q rg σ:=
 fun c hc M w0 a w hI hR hN hD=>Ca (h c hc M w0 a w hI hR hN hD) fun _ _ _ ⟨M2,bP,aw,h1,h2,h3,h4,h5,dL,di,k1,k2,k3⟩=>
  ⟨M2,dL,di,h1,h2.perm k2.2.symm,fun i=>by rw[k1];exact h3 i,h4,h5,k3⟩
def bare(l:List CI):List CD:=l.map fun c=>⟨0,c,[]⟩
theorem ye{K:ae→Store→Prop}:∀ (l:List CI) (rg eO:ae),(∀ i,lk rg i=lk eO i)→(∀ c∈l,c.op.cls≤1∨(c.op.cls=4∧c.g=none))→cx P cfg [] (bare l) K rg σ→
  yr P cfg (fun ao=>K ao σ) l eO σ
 |[],rg,eO,he,_,h=>⟨[],rfl,⟨rg,h,he⟩,fun i h=>absurd h (by simp)⟩
 |c::l,rg,eO,he,hc,h=>by
  have h1:c.op.cls≤1:=by
   rcases hc c (by simp)with h1|⟨h1,h2⟩
   ·exact h1
   ·exfalso
    have h:cK P cfg [] ⟨0,c,[]⟩ (fun x σ'=>cx P cfg [] (bare l) K (bM c.d x rg) σ') rg σ:=h
    unfold cK cF at h
    simp only[h1,h2]at h
    have:=h.1
    simp at this
  have ho:fy ⟨0,c,[]⟩=true:=by
   unfold fy
   have h2:Nat.ble c.op.cls 1=true:=Nat.ble_eq_true_of_le h1
   have h3:(Nat.ble c.op.cls 3 || isApp c.op)=true:=by rw[Nat.ble_eq_true_of_le (by omega)];rfl
   have h4:Nat.beq c.op.cls 2=false:=by rw[← YA,Nat.beq_eq];omega
   simp only[h2,h3,h4];rfl
  obtain⟨x,hx,hv⟩:=tz (c:=⟨0,c,[]⟩) h1 h
  have hq:QV P cfg c rg σ x:=A8 (c:=⟨0,c,[]⟩) (E:=fun _ _=>False) ho (hv σ (fun _ _ _ _ _ _ h=>h) (fun y s=>y=x∧s=σ) ⟨rfl,rfl⟩)
  obtain⟨xs,g1,g2,g3⟩:=ye l _ (bM c.d x eO) (uH he c.d x) (fun c' h'=>hc c' (by simp[h'])) hx
  refine⟨x::xs,by simp[g1],g2,fun i hi cz=> ?_⟩
  cases i with
  |zero=>exact qF (fun t _=>he t) hq
  |succ i=>simpa[cP]using g3 i (by simpa using hi) (by simpa using cz)
theorem yf{K:ae→Store→Prop}:∀ (l:List CI) (rg:ae),(∀ c∈l,c.op.cls≤1∨(c.op.cls=4∧c.g=none))→cx P cfg [] (bare l) K rg σ→∀ c∈l,c.op.cls≤1
 |[],_,_,_=>fun _ h=>by cases h
 |c::l,rg,hc,h=>by
  have h1:c.op.cls≤1:=by
   rcases hc c (by simp)with h1|⟨h1,h2⟩
   ·exact h1
   ·exfalso
    have h:cK P cfg [] ⟨0,c,[]⟩ (fun x σ'=>cx P cfg [] (bare l) K (bM c.d x rg) σ') rg σ:=h
    unfold cK cF at h
    simp only[h1,h2]at h
    have:=h.1
    simp at this
  obtain⟨x,hx,_⟩:=tz (c:=⟨0,c,[]⟩) h1 h
  intro c' im
  rcases ZU.1 im with rfl|im
  ·exact h1
  ·exact yf l _ (fun c h=>hc c (by simp[h])) hx c' im
theorem Oh{l:List CI}{Q:Exit→ae→Store→Prop}(cfg:Nat→Nat)(h:cx P cfg [] (bare l) (Cl (Q .normal)) rg σ):SW P N (.dc l) Q rg σ:=
 yu (s7 cfg fun hc=>⟨ye (K:=Cl (Q .normal)) l rg rg (fun _=>rfl) hc h,yf l rg hc h⟩)
theorem Ol{l:List CD}{Q:Exit→ae→Store→Prop}(cfg:Nat→Nat)(h:cx P cfg ah l (Cl (Q .normal)) rg σ):SW P N (.c8 ah l) Q rg σ:=
 yu (F4 (Q:=fun e=>Cl (Q e)) cfg h)
end
inductive AC where
 |skip
 |bX (l:List CI)
 |dc (l:List CI)
 |c8 (ah:List Nat) (l:List CD)
 |seq (a b:AC)
 |cond (c:Operand) (t e:AC)
 |block (id:Nat) (b:AC)
 |loop (b:AC)
 |exit (id:Nat)
 |ret
 |scope (b:AC)
 |label (l:Nat)
 |goto (l:Nat)
 |keep (ks:List Nat) (a:AC)
 |stop (a:AC)
def AC.erase:AC→SC
 | .skip=> .skip
 | .bX l=> .bX l
 | .dc l=> .dc l
 | .c8 ah l=> .c8 ah l
 | .seq a b=> .seq a.erase b.erase
 | .cond c t e=> .cond c t.erase e.erase
 | .block id b=> .block id b.erase
 | .loop b=> .loop b.erase
 | .exit id=> .exit id
 | .ret=> .ret
 | .scope b=> .scope b.erase
 | .label l=> .label l
 | .goto l=> .goto l
 | .keep _ a=>a.erase
 | .stop a=>a.erase
def Stop(P:Program)[Glob P](N:Nat)(a:AC)(Q:Exit→ae→Store→Prop)(rg:ae)(σ:Store):Prop:=SW P N a.erase Q rg σ
def nF(P:Program)[Glob P](N:Nat)(cfg:Nat→Nat):AC→(Exit→ae→Store→Prop)→ae→Store→Prop
 | .skip,Q,rg,σ=>Q .normal rg σ
 | .bX l,Q,rg,σ=>nG P cfg l (Q .normal) (fun ch σ'=>Q (.panic ch) [] σ') rg σ
 | .dc l,Q,rg,σ=>mg P cfg l (fun ao=>Q .normal ao σ) rg σ
 | .c8 ah l,Q,rg,σ=>cx P cfg ah l (Q .normal) rg σ
 | .seq a b,Q,rg,σ=>nF P N cfg a (kQ (nF P N cfg b Q) Q) rg σ
 | .cond c t e,Q,rg,σ=>match ev rg c with
  | .v (.bool b)=>Gd b true (nF P N cfg t Q rg σ) (nF P N cfg e Q rg σ)
  |_=>False
 | .block id b,Q,rg,σ=>nF P N cfg b (nQ id Q) rg σ
 | .loop b,Q,rg,σ=>Stop P N (.loop b) Q rg σ
 | .exit id,Q,rg,σ=>Q (.exit id) rg σ
 | .ret,Q,rg,σ=>Q .ret rg σ
 | .scope b,Q,rg,σ=>Stop P N (.scope b) Q rg σ
 | .label l,Q,rg,σ=>Q .normal rg σ
 | .goto l,Q,rg,σ=>Q (.goto l) rg σ
 | .keep ks a,Q,rg,σ=>nF P N cfg a Q (eC ks rg) σ
 | .stop a,Q,rg,σ=>Stop P N a Q rg σ
theorem qs{P:Program}[Glob P]{N:Nat}(cfg:Nat→Nat):∀ (a:AC) (Q:Exit→ae→Store→Prop) (rg:ae) (σ:Store),nF P N cfg a Q rg σ→SW P N a.erase Q rg σ
 | .skip,Q,rg,σ,h=>F8 h
 | .bX l,Q,rg,σ,h=>Om cfg h
 | .dc l,Q,rg,σ,h=>Oe cfg h
 | .c8 ah l,Q,rg,σ,h=>F4 cfg h
 | .seq a b,Q,rg,σ,h=>F7 ((qs cfg a _ rg σ h).mono fun e ao σ' he=>by
   cases e with
   |normal=>exact qs cfg b Q ao σ' he
   |_=>exact he)
 | .cond c t e,Q,rg,σ,h=>by
  simp only[nF]at h
  split at h
  ·rename_i b hb
   exact FZ hb (fun hb=>qs cfg t Q rg σ (h.l hb)) (fun hb=>qs cfg e Q rg σ (h.r hb))
  ·exact h.elim
 | .block id b,Q,rg,σ,h=>FY (qs cfg b _ rg σ h)
 | .loop b,Q,rg,σ,h=>h
 | .exit id,Q,rg,σ,h=>F0 h
 | .ret,Q,rg,σ,h=>F6 h
 | .scope b,Q,rg,σ,h=>h
 | .label l,Q,rg,σ,h=>F2 h
 | .goto l,Q,rg,σ,h=>F1 h
 | .keep ks a,Q,rg,σ,h=>SW.eC ks (qs cfg a Q _ σ h)
 | .stop a,Q,rg,σ,h=>h
theorem Stop.run{P:Program}[Glob P]{N:Nat}(cfg:Nat→Nat){a:AC}{Q:Exit→ae→Store→Prop}{rg:ae}{σ:Store}(h:nF P N cfg a Q rg σ):Stop P N a Q rg σ:=qs cfg a Q rg σ h
theorem Stop.loop{P:Program}[Glob P]{N:Nat}{b:AC}{Q:Exit→ae→Store→Prop}{rg:ae}{σ:Store}(cfg:Nat→Nat)(I:Nat→ae→Store→Prop)(n:Nat)(h0:I n rg σ)
  (h:∀ n rg σ,I n rg σ→nF P N cfg b (kQ (fun ao σ'=>∃ n',n'<n∧I n' ao σ') Q) rg σ):Stop P N (.loop b) Q rg σ:=
 F3 I n h0 fun n rg σ hi=>qs cfg b _ rg σ (h n rg σ hi)
theorem Stop.mono{P:Program}[Glob P]{N:Nat}{a:AC}{Q Q':Exit→ae→Store→Prop}{rg:ae}{σ:Store}(h:Stop P N a Q rg σ)(hq:∀ e rg σ,Q e rg σ→Q' e rg σ):Stop P N a Q' rg σ:=SW.mono h hq
theorem stop_congr{P:Program}[Glob P]{N:Nat}{a:AC}{Q:Exit→ae→Store→Prop}{rg ao:ae}{σ σ':Store}(h:rg=ao)(k:σ=σ'):Stop P N a Q rg σ=Stop P N a Q ao σ':=by rw[h,k]
attribute [congr] stop_congr
attribute [congr] callP_congr
attribute [congr] qcall_congr
structure WA(P:Program)[Glob P](N:Nat)(cfg:Nat→Nat)(a:AC)(Q:Exit→ae→Store→Prop)(rg:ae)(σ:Store):Prop where
 c:cfg=cfg
 h:SW P N a.erase Q rg σ
def gj:List Nat→ae→Option ae
 |[],_=>some []
 |k::ks,rg=>fo (lk rg k) fun x=>match gj ks rg with
  |some l=>some ((k,x)::l)
  |none=>none
theorem Cm:∀ {ks:List Nat} {rg l:ae},gj ks rg=some l→eC ks rg=l
 |[],_,_,h=>by cases h;rfl
 |k::ks,rg,l,h=>by
  have h:=gB h
  split at h
  ·rename_i l' h';cases h;simp only[eC,Cm h']
  ·cases h
def Ch(rg:ae):List Operand→Option (List AV)
 |[]=>some []
 |x::l=>fo (ev rg x) fun v=>match Ch rg l with
  |some vs=>some (v::vs)
  |none=>none
theorem Ia{rg:ae}:∀ {l:List Operand} {vs:List AV},Ch rg l=some vs→aQ rg l=vs
 |[],_,h=>by cases h;rfl
 |x::l,vs,h=>by
  have h:=gB h
  split at h
  ·rename_i l' h';cases h;simp only[aQ,Ia h']
  ·cases h
def vU(rg:ae)(x:Operand):Option Bool:=match ev rg x with
 | .v (.bool b)=>some b
 |_=>none
theorem Rg{rg:ae}{x:Operand}{b:Bool}(h:vU rg x=some b):ev rg x= .v (.bool b):=by
 unfold vU at h
 split at h
 ·rename_i e;cases h;exact e
 ·cases h
section
variable {P:Program}[Glob P]{N:Nat}{cfg:Nat→Nat}{Q:Exit→ae→Store→Prop}{K:ae→Store→Prop}{E:List PanicEntry→Store→Prop}{rg ao:ae}{σ σ':Store}{l:List CI}{d:Option Nat}{op:au}{p:Prop}{v:AV}
theorem Gf{a b:AC}(h:WA P N cfg a (kQ (fun rg σ=>WA P N cfg b Q rg σ) Q) rg σ):WA P N cfg (.seq a b) Q rg σ:=
 ⟨rfl,F7 (h.h.mono fun e ao σ' he=>by
  cases e with
  |normal=>exact he.h
  |_=>exact he)⟩
theorem PO(h:Q .normal rg σ):WA P N cfg .skip Q rg σ:=⟨rfl,F8 h⟩
theorem PN(h:Q .ret rg σ):WA P N cfg .ret Q rg σ:=⟨rfl,F6 h⟩
theorem PH{id:Nat}(h:Q (.exit id) rg σ):WA P N cfg (.exit id) Q rg σ:=⟨rfl,F0 h⟩
theorem PE{x:Operand}{a b:AC}{c:Bool}(hx:vU rg x=some c)(h1:c=true→WA P N cfg a Q rg σ)(h2:c=false→WA P N cfg b Q rg σ):WA P N cfg (.cond x a b) Q rg σ:=⟨rfl,FZ (Rg hx) (fun e=>(h1 e).h) (fun e=>(h2 e).h)⟩
theorem PD{id:Nat}{a:AC}(h:WA P N cfg a (nQ id Q) rg σ):WA P N cfg (.block id a) Q rg σ:=⟨rfl,FY h.h⟩
theorem Ge{ks:List Nat}{a:AC}(hk:gj ks rg=some ao)(h:WA P N cfg a Q ao σ):WA P N cfg (.keep ks a) Q rg σ:=⟨rfl,SW.eC ks (by rw[Cm hk];exact h.h)⟩
theorem PI{a:AC}(I:Nat→ae→Store→Prop)(n:Nat)(h0:I n rg σ)(h:∀ n rg σ,I n rg σ→WA P N cfg a (kQ (fun ao σ'=>∃ n',n'<n∧I n' ao σ') Q) rg σ):WA P N cfg (.loop a) Q rg σ:=
 ⟨rfl,F3 I n h0 fun n rg σ hi=>(h n rg σ hi).h⟩
theorem WA.mono{a:AC}{Q':Exit→ae→Store→Prop}(h:WA P N cfg a Q rg σ)(hq:∀ e rg σ,Q e rg σ→Q' e rg σ):WA P N cfg a Q' rg σ:=⟨rfl,h.h.mono hq⟩
theorem Re{id ni:Nat}(e:Nat.beq ni id=true)(h:Q .normal rg σ):nQ id Q (.exit ni) rg σ:=by simp only[nQ];rw[if_pos (ZM e)];exact h
theorem Rc{id ni:Nat}(e:Nat.beq ni id=false)(h:Q (.exit ni) rg σ):nQ id Q (.exit ni) rg σ:=by
 simp only[nQ];rw[if_neg (fun k=>by subst k;simp[YO]at e)];exact h
def Fin(eS:Store)(r:AV)(x:AV)(σ:Store):Prop:=Wk x r∧Sub eS σ
theorem Fin.intro{eS:Store}{r x:AV}(h:Sub eS σ)(e:x=r):Fin eS r x σ:=⟨Wk.lY e,h⟩
def qL(x:AV):Option (List AV):=match x.cells? with
 |some l=>iR l some
 |none=>none
theorem B3{x:AV}{l:List AV}(h:qL x=some l):x.cells? =some l:=by
 unfold qL at h
 split at h
 ·rename_i e;have h:=ij h;cases h;exact e
 ·cases h
variable {ah cf:List Nat}{ix:Nat}{ld:List CD}
def Lc(ah cf:List Nat)(rg:ae):au→Bool
 | .load a n x=>kG ah cf rg (.load a n x)
 | .store n x y=>ql ah cf rg (.store n x y)
 | .box .. | .alloc .. | .append .. | .exts .. | .panic .. =>false
 |_=>true
theorem HW{cfg:Nat→Nat}(hc:op.cls=0)(h:cH cfg d rg σ op=some (p,v,σ')):σ'=σ:=by
 cases op
 case load=>cases hc
 case store=>cases hc
 case alloc=>cases hc
 case box=>cases hc
 case append=>cases hc
 case exts=>cases hc
 case panic=>cases hc
 case len s x=>cases s<;>(simp only[cH]at h;repeat' split at h)<;>cases h<;>rfl
 all_goals simp only[cH,reduceCtorEq]at h
 all_goals(repeat' split at h)
 all_goals first
  |(cases h;done)
  |(cases h;rfl)
  |(have:=gB h;cases this;rfl)
  |(have:=ij h;cases this;rfl)
  |(have:=qT h;cases this;rfl)
  |(have h2:=(ox h).2;(repeat' split at h2)<;>first|(cases h2;done)|(cases h2;rfl)|(have:=gB h2;cases this;rfl)|(have:=ij h2;cases this;rfl))
theorem SB{K:AV→Prop}(hc:op.cls=0)(h:cH cfg d rg σ op=some (p,v,σ'))(hp:p)(k:K v):aC P cfg d rg σ K op:=by
 have hs:=yK (P:=P) (K:=fun x _=>K x) (E:=fun _ _=>False) h hp k
 cases op with
 |bh t af parts=>
  simp only[aC]
  simp only[cH]at h
  split at h
  ·rename_i rows e
   rw[e]
   split at h
   ·rename_i e2;have:=qT h;cases this;exact⟨hp,by simp only[e2];exact k⟩
   ·rename_i e2;have:=qT h;cases this;exact⟨hp,by simp only[e2];exact k⟩
   ·cases h
  ·cases h
 |len s x=>
  cases s with
  |true=>exact hs
  |false=>
   simp only[aC]
   simp only[cH]at h
   split at h
   ·rename_i e;rw[e];cases h;exact k
   ·rename_i e;rw[e];cases h;exact k
   ·rename_i e;rw[e];cases h;exact k
   ·rename_i e;rw[e];cases h;exact k
   ·cases h
 |call f args=>cases h
 |dp f args=>cases h
 |b8 op ty ti args=>cases h
 |exts op ty ti args=>cases hc
 |panic x=>cases hc
 |box t x=>cases hc
 |alloc t x=>cases hc
 |store n t x=>cases hc
 |append t n k z x y=>cases hc
 |load a n x=>cases hc
 |_=>exact hs
end
section
variable {P:Program}[Glob P]{cfg:Nat→Nat}{K:ae→Store→Prop}{E:List PanicEntry→Store→Prop}{rg:ae}{σ:Store}{l:List CI}{d:Option Nat}{op:au}{ah cf:List Nat}{ix:Nat}{ld:List CD}
end
theorem Pure.run{P:Program}[Glob P][jh P]{f:FuncId}{fn:Func}{fc:FC}{as:List AV}{r:AV}{a:AC}(cfg:Nat→Nat)(hf:P.funcs[f]? =some fn)(hc:bZ P fn=some fc)(ha:fc.code=a.erase)(hlen:as.length≤fc.N)
  (h:∀ σ,WA P fc.N cfg a (kN fc.res r σ) (iM 0 as) σ):Pure P f as r:=
 Pure.intro hf hc hlen fun σ=>by rw[ha];exact(h σ).h
theorem Spec.run{P:Program}[Glob P][jh P]{f:FuncId}{fn:Func}{fc:FC}{as:List AV}{σ:Store}{Q:cU→Store→Prop}{a:AC}(cfg:Nat→Nat)(hf:P.funcs[f]? =some fn)(hc:bZ P fn=some fc)(ha:fc.code=a.erase)(hlen:as.length≤fc.N)
  (h:WA P fc.N cfg a (j0 fc.res Q) (iM 0 as) σ):Spec P f as σ Q:=
 Spec.intro hf hc hlen (by rw[ha];exact h.h)
def FP(I:Nat→ae→Store→Prop)(n:Nat)(ks:List Nat)(rg:ae)(σ:Store):Prop:=∃ n' ao,n'<n∧gj ks rg=some ao∧I n' ao σ
section
variable {P:Program}[Glob P]{N:Nat}{cfg:Nat→Nat}{Q:Exit→ae→Store→Prop}{K:ae→Store→Prop}{E:List PanicEntry→Store→Prop}{rg ao:ae}{σ σ':Store}{l:List CI}{d:Nat}{op:au}{p:Prop}{v:AV}
variable {ah cf:List Nat}{ix:Nat}{ld:List CD}
theorem FP.intro{I:Nat→ae→Store→Prop}{n:Nat}{ks:List Nat}(hk:gj ks rg=some ao)(h:∃ n',n'<n∧I n' ao σ):FP I n ks rg σ:=h.elim fun n' h=>⟨n',ao,h.1,hk,h.2⟩
def tJ(x:AV):Option (FuncId×Array Value×Array Value):=match x with
 | .v (.func (.func f) a c)=>some (f,a,c)
 |_=>none
theorem yT{x:AV}{f:FuncId}{a c:Array Value}(h:tJ x=some (f,a,c)):x= .v (.func (.func f) a c):=by
 unfold tJ at h
 split at h
 ·cases h;rfl
 ·cases h
def nC(x:AV):Option (Nat×List (List AV)):=match x with
 | .sl _ e rows=>some (e,rows)
 | .own e _ _ _ _ rows=>some (e,rows)
 |_=>none
theorem Av{x:AV}{e:Nat}{rows:List (List AV)}(h:nC x=some (e,rows)):(∃ nn,x= .sl nn e rows)∨∃ t b u c,x= .own e t b u c rows:=by
 unfold nC at h
 split at h
 ·cases h;exact .inl ⟨_,rfl⟩
 ·cases h;exact .inr ⟨_,_,_,_,rfl⟩
 ·cases h
def gE(x:AV):Option Int:=match x with
 | .v (.int _ n)=>some n
 |_=>none
theorem pR{x:AV}{n:Int}(h:gE x=some n):∃ q,x= .v (.int q n):=by
 unfold gE at h
 split at h
 ·cases h;exact⟨_,rfl⟩
 ·cases h
end
theorem Fin.wk{eS σ:Store}{r x:AV}(h:Sub eS σ)(w:Wk x r):Fin eS r x σ:=⟨w,h⟩
theorem bt{p:Prop}[Decidable p](h:p):AV.v (.bool true)=AV.v (.bool (decide p)):=by rw[Zn h]
theorem bf{p:Prop}[Decidable p](h:¬p):AV.v (.bool false)=AV.v (.bool (decide p)):=by rw[Zu h]
end Go.Sx
