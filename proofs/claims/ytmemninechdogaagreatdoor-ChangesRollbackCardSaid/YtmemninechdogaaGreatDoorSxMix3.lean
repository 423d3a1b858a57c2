import Derived.Test.YtmemninechdogaaGreatDoorSxMix2
set_option linter.all false
namespace Go.Sx
open Go.RowKit
def Cl(K:ag->Store->Prop)(rg:ag)(σ:Store):Prop:=∃al af,(∀i,lk al i=lk rg i)/\cK af σ/\K al af
theorem Cl.intro{K:ag->Store->Prop}{rg:ag}{σ:Store}(h:K rg σ):Cl K rg σ:=⟨rg,σ,fun _=>rfl,cK.refl _,h⟩
theorem Cl.closed(K:ag->Store->Prop):sH (Cl K):=fun _ _ _ _ hr hs ⟨al,af,h1,h2,h3⟩=>⟨al,af,fun i=>(h1 i).trans (hr i),h2.trans hs,h3⟩
def Vo(ops:Array Oper)(aq:List Nat)(a c:CD):Prop:=gQ ops a.ix c.ix=false/\(gQ ops c.ix a.ix=true\/qX aq a c=true\/Af ops 2 c.ix a.ix=true)
theorem Sj{ops:Array Oper}{aq:List Nat}:∀(l:List CD),yq ops aq l=true->l.Pairwise (Vo ops aq)
 |[],_=>.nil|a::l,h=>by
  simp only[yq,Z6,ZA,YL,YA]at h;exact .cons (fun c hc=>⟨(h.1.2 c hc).1,by
   grind⟩) (Sj l h.2)
theorem O6{ops:Array Oper}{p:Nat->Bool}(hd:∀i,p i=true->∀j,gQ ops i j=true->p j=true):∀(n i j:Nat),(∀b,gQ ops i b=true->p b=true)->Af ops n i j=true->p j=true
 |0,i,j,hi,h=>hi j h|n+1,i,j,hi,h=>by
  rw[Af,YL]at h;rcases h with h|h
  .grind
  .obtain⟨b,_,hb⟩:=Yh.1 h;rw[Z6]at hb;exact O6 hd n b j (fun c hc=>hd b (hi b hb.1) c hc) hb.2
theorem Sk{ops:Array Oper}{aq:List Nat}:∀(l:List CD),yq ops aq l=true->∀x∈l,gQ ops x.ix x.ix=false
 |[],_,x,hx=>by cases hx|a::l,h,x,hx=>by
  simp only[yq,Z6,YA]at h;rcases ZR.1 hx with rfl|hx
  .grind
  .exact Sk l h.2 x hx
section
variable {P:Program}[Glob P]{M:Mem}{w0:Base}{σ:Store}{rg:ag}{cfg:Nat->Nat}{N:Nat}{aq:List Nat}
theorem Um{K K':ag->Store->Prop}(hk:∀rg σ,K rg σ->K' rg σ):∀(l:List CD) (rg:ag) (σ:Store),(∀x∈l,iU x=true)->da P cfg aq l K rg σ->da P cfg aq l K' rg σ
 |[],rg,σ,_,h=>hk _ _ h|c::l,rg,σ,ho,h=>Lv (ho c (by simp)) h fun y aK _ hv=>Um hk l _ aK (fun x hx=>ho x (by simp[hx])) hv
theorem Me{l:List CD}{Q:Exit->ag->Store->Prop}(cfg:Nat->Nat)(X:List CD->ag->Store->Prop)(h0:(∀x∈l,iU x=true)->X l rg σ)(adQ:∀rg σ,X [] rg σ->Cl (Q .normal) rg σ)
  (aef:∀(A:List CD) (x:CD) (B:List CD) (rg:ag) (σ:Store),(∀a∈A++x::B,iU a=true)->(∀a∈A,qX aq a x=true)->X (A++x::B) rg σ->
   ∃al af,(∀i,lk al i=lk rg i)/\cK af σ/\cE P cfg x.c (fun y aK=>X (A++B) (bB x.c.d y rg) aK) (fun ch af=>Q (.panic ch) [] af) al af):SW P N (.eR aq l) Q rg σ:=by
 intro c hc M w0 a w hI hR hN hD;obtain⟨id,ops,cl,rfl,bL,x6,cr,tE⟩:=fC hc;obtain⟨hlen,DD⟩:=CL ops.toList cl bL;unfold Es at cr;simp only[Z6,ZQ,Yp]at cr;obtain⟨⟨⟨⟨⟨BE,rz⟩,adL⟩,vO⟩,adF⟩,PC⟩:=cr;have aeb:=Sk l PC;have rz:=ZE rz;have Jh:∀x∈l,iU x=true:=ZA.1 vO;have oU:=Sj l PC;have az:∀x∈l,x.ix<ops.size:=fun x hx=>by grind
 have h':=h0 Jh;refine G3 tE ?_
 have main:∀(fuel:Nat) (L:List CD) (listed:Array Bool) (a:Act) (w:World),listed.size=ops.size->L.length<=fuel->L.Sublist l->
   (∀i,i<ops.size->(listed.getD i true=false↔∃x∈L,x.ix=i))->(∀i,listed.getD i false=true->∀j,gQ ops i j=true->listed.getD j false=true)->
   (∃M2 bK aK,M.le M2/\Inv P M2 w0 aK w/\bS M2 bK a/\a.tmps.size=N/\a.defers=Glob.df P/\X L bK aK)->
   wpAny P .any ops (jr P M w0 N Q) fuel listed a w:=by
  have fin:∀(a:Act) (w:World),(∃M2 bK aK,M.le M2/\Inv P M2 w0 aK w/\bS M2 bK a/\a.tmps.size=N/\a.defers=Glob.df P/\X [] bK aK)->jr P M w0 N Q .normal a w:=by rintro a w ⟨M2,bK,aK,g1,g2,g3,g4,g5,g6⟩;obtain⟨eZ,IF,k1,k2,k3⟩:=adQ _ _ g6;exact⟨M2,eZ,IF,g1,g2.perm k2.2.symm,fun i=>by rw[k1];exact g3 i,g4,g5,k3⟩
  intro fuel
  induction fuel with
  |zero=>
   intro L listed a w bl x3 jJ hL je fD;obtain rfl:L=[]:=Yi.1 (by omega);refine⟨?_,fin a w fD⟩;unfold Region.ready;rw[Yf];intro i hi;have cJ:i<ops.size:=by simpa using hi
   have:listed.getD i true=true:=by
    cases oR:listed.getD i true with
    |true=>rfl|false=>obtain⟨x,hx,_⟩:=(hL i cJ).1 oR;cases hx
   simp[this]
  |succ fuel ih=>
   intro L listed a w bl x3 jJ hL je fD;have ID:∀i,i<ops.size->listed.getD i false=listed.getD i true:=fun i hi=>by rw[ZS,ZS,ZF (by omega)];rfl
   refine⟨fun hr=>?_,fun i hi=>?_⟩
   .cases L with
    |nil=>exact fin a w fD|cons x L=>
     exfalso;have hx:=jJ.subset (ZK);have ct:=az x hx;have Jn:=oU.sublist jJ;have:x.ix∈Region.ready .any ops listed:=by
      unfold Region.ready;rw[Y6];refine⟨by simpa using ct,?_⟩;have oR:listed.getD x.ix true=false:=(hL x.ix ct).2 ⟨x,by simp,rfl⟩;simp only[oR,Xt,Bool.true_and,ZF ct,ZJ,Zm];rw[ZC];intro e he;cases lS:Region.binds .any e with
      |false=>rfl|true=>
       have qd:e.on<ops.size:=by have h1:=ZC.1 adF _ (X5 ct);have h2:=ZC.1 h1 e he;simpa[lS]using h2
       have:listed.getD e.on true=true:=by
        cases hle:listed.getD e.on true with
        |true=>rfl|false=>
         exfalso;obtain⟨y,hy,hyi⟩:=(hL e.on qd).1 hle;have hE:gQ ops x.ix y.ix=true:=by unfold gQ;rw[ZF ct];simp only[XI,Xy];obtain⟨m,hm,hme⟩:=Array.mem_iff_getElem.1 he;exact⟨m,hm,by rw[hme,lS,hyi];simp⟩
         rcases ZR.1 hy with rfl|hy
         ·
          have:=(aeb y hx)
          rw[this]at hE;cases hE
         .have:=(List.rel_of_pairwise_cons Jn hy).1;rw[this]at hE;cases hE
       simp[ID e.on qd,this]
     rw[hr]at this;cases this
   .unfold Region.ready at hi;rw[Y6]at hi;obtain⟨oP,jD⟩:=hi;have fM:i<ops.size:=by simpa using oP
    simp only[Z6,YA,ZF fM,ZJ,Zm]at jD;obtain⟨gT,x4⟩:=jD;obtain⟨x,PW,rfl⟩:=(hL i fM).1 gT;obtain⟨A,B,rfl⟩:=Xh PW;have hx:=jJ.subset PW;obtain⟨M2,bK,aK,g1,g2,g3,g4,g5,g6⟩:=fD;have Jn:=oU.sublist jJ;have PJ:∀b,gQ ops x.ix b=true->listed.getD b false=true:=fun b hb=>by unfold gQ at hb;rw[ZF fM]at hb;simp only[XI,Xy,Z6,beq_iff_eq]at hb;obtain⟨m,hm,xZ,qd⟩:=hb;have:=ZC.1 x4 _ (X5 hm);rw[xZ,qd]at this;simpa using this
    have hA:∀a∈A,qX aq a x=true/\iU a=true:=by
     intro b hb;refine⟨?_,Jh b (jJ.subset (by simp[hb]))⟩;have hp:=(Xv.1 Jn).2.2 b hb x (by simp);rcases hp.2 with hE|hc|hR
     rotate_left 2
     .exfalso;have:=O6 (p:=fun i=>listed.getD i false) je 2 x.ix b.ix PJ hR;have kJ:=az b (jJ.subset (by simp[hb]));try simp only at this
      rw[ID _ kJ,(hL b.ix kJ).2 ⟨b,by simp[hb],rfl⟩]at this;cases this
     .exfalso;unfold gQ at hE;rw[ZF fM]at hE;simp only[XI,Xy,Z6,beq_iff_eq]at hE;obtain⟨m,hm,xZ,qd⟩:=hE;have:=ZC.1 x4 _ (X5 hm);rw[xZ,qd]at this;have kJ:=az b (jJ.subset (by simp[hb]));rw[ID _ kJ,(hL b.ix kJ).2 ⟨b,by simp[hb],rfl⟩]at this;simp at this
     .exact hc
    obtain⟨rgq,σq,eq1,eq2,hq⟩:=aef A x B bK aK (fun b hb=>Jh b (jJ.subset hb)) (fun b hb=>(hA b hb).1) g6;have nG:qY P N ops ops[x.ix]=some x.c:=by
     have Pf:x.ix<cl.length:=by rw[hlen];simpa using fM
     have:=DD x.ix (by simpa using fM) Pf;have e:=x6 x hx;rw[ZX Pf]at e;have e:=YC e;rw[<-e];simpa using this
    obtain⟨kK,ad2⟩:=zC nG;unfold wpOp;simp only[ZF fM];refine vh nG hq (g2.perm eq2.2.symm) (fun i=>by rw[eq1];exact g3 i) ⟨?_,fun M3 ch IF w' hM bg hk=>⟨M3,[],IF,g1.trans hM,bg,fun i=>.any _,g4,g5,hk⟩⟩;rintro M3 y IF v w' hM bg hy hv;have ad4:((A++x::B).map (·.ix)).Nodup:=BE.sublist (jJ.map _)
    refine ih (A++B) _ _ _ (by simp[bl]) (by simp at x3|-;omega) (List.Sublist.trans (List.Sublist.append (List.Sublist.refl A) (List.sublist_cons_self x B)) jJ) (fun j hj=>?_) (fun i hi j gH=>?_)
     ⟨M3,_,IF,g1.trans hM,bg,by rw[kK];exact(g3.mono hM).put _ (fun t ht=>by rw[g4];exact ad2 t (kK.trans ht)) hy,by rw[Act.size_put];exact g4,by rw[Act.zD];exact g5,hv⟩
    rotate_left
    .have Py:∀k,listed.getD k false=true->(listed.setIfInBounds x.ix true).getD k false=true:=fun k hk=>by
      rw[ZS]at hk|-;rw[Zj];split
      .rename_i e;subst e;simp[bl,fM]
      .exact hk
     by_cases ye:x.ix=i
     .subst ye;exact Py j (PJ j gH)
     .refine Py j (je i ?_ j gH);rw[ZS,Zj,Z9 ye]at hi;rw[ZS];exact hi
    have mP:∀z∈A++B,z.ix≠x.ix:=by intro z hz e;have hp:((x::(A++B)).map (·.ix)).Nodup:=(((List.perm_middle (a:=x) (l₁:=A) (l₂:=B)).map (·.ix)).nodup_iff).1 ad4;rw[Zz,YQ]at hp;exact hp.1 (by rw[<-e];exact Ye hz)
    by_cases jF:x.ix=j
    .subst jF;have e:(listed.setIfInBounds x.ix true).getD x.ix true=true:=by rw[ZS,Zj];simp[bl,fM]
     rw[e];exact⟨fun h=>(nomatch h),fun⟨z,hz,e⟩=>absurd e (mP z hz)⟩
    .have e:(listed.setIfInBounds x.ix true).getD j true=listed.getD j true:=by rw[ZS,Zj,Z9 jF,ZS]
     rw[e,hL j hj];constructor
     .rintro⟨z,hz,rfl⟩;refine⟨z,?_,rfl⟩;rcases ZI.1 hz with hz|hz
      .exact Zy _ hz
      .rcases ZR.1 hz with rfl|hz
       .exact absurd rfl jF
       .exact Y3 _ hz
     .rintro⟨z,hz,rfl⟩;refine⟨z,?_,rfl⟩;rcases ZI.1 hz with hz|hz
      .exact Zy _ hz
      .exact Y3 _ (ZN _ hz)
 have adM:∀i,i<ops.size->∃x∈l,x.ix=i:=fun i hi=>by have:=ZA.1 adL i (by simpa using hi);obtain⟨x,hx,e⟩:=Yh.1 this;exact⟨x,hx,Z0 e⟩
 refine main ops.size l _ a _ (by simp) rz (List.Sublist.refl _) (fun i hi=>?_) (fun i hi=>?_) ⟨M,rg,σ,Mem.le.refl _,hI.ft,hR,hN,hD,h'⟩
 rotate_left
 .exfalso;rw[ZS,Array.getElem?_replicate]at hi;split at hi<;>cases hi
 simp_all
theorem Gh{l:List CD}{Q:Exit->ag->Store->Prop}(cfg:Nat->Nat)(h:da P cfg aq l (Q .normal) rg σ):SW P N (.eR aq l) Q rg σ:=
 Me cfg (fun L rg σ=>da P cfg aq L (Cl (Q .normal)) rg σ) (fun ho=>Um (fun _ _=>Cl.intro) l rg σ ho h) (fun _ _ h=>h)
  fun A x B rg σ ho hA hv=>⟨rg,σ,fun _=>rfl,cK.refl _,Uj (ho x (by simp)) (On (Cl.closed _) (ho x (by simp)) A B rg σ (fun a ha=>⟨hA a ha,ho a (by simp[ha])⟩) (fun b hb=>ho b (by simp[hb])) hv)⟩
theorem zk{s:SC}{Q:Exit->ag->Store->Prop}(h:SW P N s (fun e=>Cl (Q e)) rg σ):SW P N s Q rg σ:=
 fun c hc M w0 a w hI hR hN hD=>uY (h c hc M w0 a w hI hR hN hD) fun _ _ _ ⟨M2,bK,aK,h1,h2,h3,h4,h5,eZ,IF,k1,k2,k3⟩=>
  ⟨M2,eZ,IF,h1,h2.perm k2.2.symm,fun i=>by rw[k1];exact h3 i,h4,h5,k3⟩
def bare(l:List CI):List CD:=l.map fun c=>⟨0,c,[]⟩
theorem yW{K:ag->Store->Prop}:∀(l:List CI) (rg eK:ag),(∀i,lk rg i=lk eK i)->(∀c∈l,c.op.cls<=1\/(c.op.cls=4/\c.g=none))->da P cfg [] (bare l) K rg σ->
  B0 P cfg (fun al=>K al σ) l eK σ
 |[],rg,eK,he,_,h=>⟨[],rfl,⟨rg,h,he⟩,fun i h=>absurd h (by simp)⟩
 |c::l,rg,eK,he,hc,h=>by
  have h1:c.op.cls<=1:=by
   rcases hc c (by simp)with h1|⟨h1,h2⟩
   .exact h1
   .have h:c9 P cfg [] ⟨0,c,[]⟩ (fun x af=>da P cfg [] (bare l) K (bB c.d x rg) af) rg σ:=h;unfold c9 cy at h;grind
  have ho:iU ⟨0,c,[]⟩=true:=by
   unfold iU;have h2:Nat.ble c.op.cls 1=true:=Xa h1;have h3:(Nat.ble c.op.cls 3||isApp c.op)=true:=by rw[Xa (by omega)];rfl
   have h4:Nat.beq c.op.cls 2=false:=by rw[<-X8,Nat.beq_eq];omega
   grind
  obtain⟨x,hx,hv⟩:=zG (c:=⟨0,c,[]⟩) h1 h;have hq:QV P cfg c rg σ x:=Uj (c:=⟨0,c,[]⟩) (E:=fun _ _=>False) ho (hv σ (fun _ _ _ _ _ _ h=>h) (fun y s=>y=x/\s=σ) ⟨rfl,rfl⟩);obtain⟨xs,g1,g2,g3⟩:=yW l _ (bB c.d x eK) (yh he c.d x) (fun c' h'=>hc c' (by simp[h'])) hx;refine⟨x::xs,by simp[g1],g2,fun i hi cJ=>?_⟩;cases i with
  |zero=>exact uO (fun t _=>he t) hq|succ i=>simpa[dE]using g3 i (by grind) (by grind)
theorem yX{K:ag->Store->Prop}:∀(l:List CI) (rg:ag),(∀c∈l,c.op.cls<=1\/(c.op.cls=4/\c.g=none))->da P cfg [] (bare l) K rg σ->∀c∈l,c.op.cls<=1
 |[],_,_,_=>fun _ h=>by cases h
 |c::l,rg,hc,h=>by
  have h1:c.op.cls<=1:=by
   rcases hc c (by simp)with h1|⟨h1,h2⟩
   .exact h1
   .have h:c9 P cfg [] ⟨0,c,[]⟩ (fun x af=>da P cfg [] (bare l) K (bB c.d x rg) af) rg σ:=h;unfold c9 cy at h;grind
  obtain⟨x,hx,_⟩:=zG (c:=⟨0,c,[]⟩) h1 h;intro c' gG;rcases ZR.1 gG with rfl|gG
  .exact h1
  .exact yX l _ (fun c h=>hc c (by simp[h])) hx c' gG
theorem Ma{l:List CI}{Q:Exit->ag->Store->Prop}(cfg:Nat->Nat)(h:da P cfg [] (bare l) (Cl (Q .normal)) rg σ):SW P N (.de l) Q rg σ:=
 zk (wZ cfg fun hc=>⟨yW (K:=Cl (Q .normal)) l rg rg (fun _=>rfl) hc h,yX l rg hc h⟩)
theorem Vt{l:List CD}{Q:Exit->ag->Store->Prop}(cfg:Nat->Nat)(h:da P cfg aq l (Cl (Q .normal)) rg σ):SW P N (.eR aq l) Q rg σ:=
 zk (Gh (Q:=fun e=>Cl (Q e)) cfg h)
end
inductive AC where
 |skip
 |bh (l:List CI)
 |de (l:List CI)
 |eR (aq:List Nat) (l:List CD)
 |seq (a b:AC)
 |cond (c:Operand) (t e:AC)
 |block (id:Nat) (b:AC)
 |loop (b:AC)
 |exit (id:Nat)
 |ret
 |scope (b:AC)
 |label (l:Nat)
 |goto (l:Nat)
 |aH (ks:List Nat) (a:AC)
 |stop (a:AC)
def AC.erase:AC->SC
 |.skip=>.skip|.bh l=>.bh l|.de l=>.de l|.eR aq l=>.eR aq l|.seq a b=>.seq a.erase b.erase|.cond c t e=>.cond c t.erase e.erase|.block id b=>.block id b.erase|.loop b=>.loop b.erase|.exit id=>.exit id|.ret=>.ret|.scope b=>.scope b.erase|.label l=>.label l|.goto l=>.goto l|.aH _ a=>a.erase|.stop a=>a.erase
def Stop(P:Program)[Glob P](N:Nat)(a:AC)(Q:Exit->ag->Store->Prop)(rg:ag)(σ:Store):Prop:=SW P N a.erase Q rg σ
def qE(P:Program)[Glob P](N:Nat)(cfg:Nat->Nat):AC->(Exit->ag->Store->Prop)->ag->Store->Prop
 |.skip,Q,rg,σ=>Q .normal rg σ|.bh l,Q,rg,σ=>ko P cfg l (Q .normal) (fun ch af=>Q (.panic ch) [] af) rg σ|.de l,Q,rg,σ=>pw P cfg l (fun al=>Q .normal al σ) rg σ|.eR aq l,Q,rg,σ=>da P cfg aq l (Q .normal) rg σ|.seq a b,Q,rg,σ=>qE P N cfg a (qC (qE P N cfg b Q) Q) rg σ|.cond c t e,Q,rg,σ=>match ev rg c with
  |.v (.bool b)=>Gd b true (qE P N cfg t Q rg σ) (qE P N cfg e Q rg σ)|_=>False
 |.block id b,Q,rg,σ=>qE P N cfg b (oy id Q) rg σ|.loop b,Q,rg,σ=>Stop P N (.loop b) Q rg σ|.exit id,Q,rg,σ=>Q (.exit id) rg σ|.ret,Q,rg,σ=>Q .ret rg σ|.scope b,Q,rg,σ=>Stop P N (.scope b) Q rg σ|.label l,Q,rg,σ=>Q .normal rg σ|.goto l,Q,rg,σ=>Q (.goto l) rg σ|.aH ks a,Q,rg,σ=>qE P N cfg a Q (eP ks rg) σ|.stop a,Q,rg,σ=>Stop P N a Q rg σ
theorem uE{P:Program}[Glob P]{N:Nat}(cfg:Nat->Nat):∀(a:AC) (Q:Exit->ag->Store->Prop) (rg:ag) (σ:Store),qE P N cfg a Q rg σ->SW P N a.erase Q rg σ
 |.skip,Q,rg,σ,h=>Gj h|.bh l,Q,rg,σ,h=>Mf cfg h|.de l,Q,rg,σ,h=>Vq cfg h|.eR aq l,Q,rg,σ,h=>Gh cfg h|.seq a b,Q,rg,σ,h=>zl ((uE cfg a _ rg σ h).mono fun e al af he=>by
   cases e with
   |normal=>exact uE cfg b Q al af he|_=>exact he)
 |.cond c t e,Q,rg,σ,h=>by
  simp only[qE]at h;split at h
  .rename_i b hb;exact Ci hb (fun hb=>uE cfg t Q rg σ (h.l hb)) (fun hb=>uE cfg e Q rg σ (h.r hb))
  grind
 |.block id b,Q,rg,σ,h=>zj (uE cfg b _ rg σ h)|.loop b,Q,rg,σ,h=>h|.exit id,Q,rg,σ,h=>Gf h|.ret,Q,rg,σ,h=>Gi h|.scope b,Q,rg,σ,h=>h|.label l,Q,rg,σ,h=>Md h|.goto l,Q,rg,σ,h=>Mc h|.aH ks a,Q,rg,σ,h=>SW.eP ks (uE cfg a Q _ σ h)|.stop a,Q,rg,σ,h=>h
theorem Stop.run{P:Program}[Glob P]{N:Nat}(cfg:Nat->Nat){a:AC}{Q:Exit->ag->Store->Prop}{rg:ag}{σ:Store}(h:qE P N cfg a Q rg σ):Stop P N a Q rg σ:=uE cfg a Q rg σ h
theorem Stop.loop{P:Program}[Glob P]{N:Nat}{b:AC}{Q:Exit->ag->Store->Prop}{rg:ag}{σ:Store}(cfg:Nat->Nat)(I:Nat->ag->Store->Prop)(n:Nat)(h0:I n rg σ)
  (h:∀n rg σ,I n rg σ->qE P N cfg b (qC (fun al af=>∃n',n'<n/\I n' al af) Q) rg σ):Stop P N (.loop b) Q rg σ:=
 Gg I n h0 fun n rg σ hi=>uE cfg b _ rg σ (h n rg σ hi)
theorem Stop.mono{P:Program}[Glob P]{N:Nat}{a:AC}{Q Q':Exit->ag->Store->Prop}{rg:ag}{σ:Store}(h:Stop P N a Q rg σ)(hq:∀e rg σ,Q e rg σ->Q' e rg σ):Stop P N a Q' rg σ:=SW.mono h hq
theorem stop_congr{P:Program}[Glob P]{N:Nat}{a:AC}{Q:Exit->ag->Store->Prop}{rg al:ag}{σ af:Store}(h:rg=al)(k:σ=af):Stop P N a Q rg σ=Stop P N a Q al af:=by rw[h,k]
attribute [congr] stop_congr
attribute [congr] callP_congr
attribute [congr] qcall_congr
structure WA(P:Program)[Glob P](N:Nat)(cfg:Nat->Nat)(a:AC)(Q:Exit->ag->Store->Prop)(rg:ag)(σ:Store):Prop where
 c:cfg=cfg
 h:SW P N a.erase Q rg σ
def lL:List Nat->ag->Option ag
 |[],_=>some []|k::ks,rg=>fo (lk rg k) fun x=>match lL ks rg with
  |some l=>some ((k,x)::l)|none=>none
theorem C6:∀{ks:List Nat} {rg l:ag},lL ks rg=some l->eP ks rg=l
 |[],_,_,h=>by cases h;rfl|k::ks,rg,l,h=>by
  have h:=jb h;split at h
  .rename_i l' h';cases h;simp only[eP,C6 h']
  grind
def Hg(rg:ag):List Operand->Option (List AV)
 |[]=>some []|x::l=>fo (ev rg x) fun v=>match Hg rg l with
  |some vs=>some (v::vs)|none=>none
theorem NG{rg:ag}:∀{l:List Operand} {vs:List AV},Hg rg l=some vs->aL rg l=vs
 |[],_,h=>by cases h;rfl|x::l,vs,h=>by
  have h:=jb h;split at h
  .rename_i l' h';cases h;simp only[aL,NG h']
  grind
def zw(rg:ag)(x:Operand):Option Bool:=match ev rg x with
 |.v (.bool b)=>some b|_=>none
theorem aaL{rg:ag}{x:Operand}{b:Bool}(h:zw rg x=some b):ev rg x= .v (.bool b):=by unfold zw at h;grind
section
variable {P:Program}[Glob P]{N:Nat}{cfg:Nat->Nat}{Q:Exit->ag->Store->Prop}{K:ag->Store->Prop}{E:List PanicEntry->Store->Prop}{rg al:ag}{σ af:Store}{l:List CI}{d:Option Nat}{op:aB}{p:Prop}{v:AV}
theorem Wz{a b:AC}(h:WA P N cfg a (qC (fun rg σ=>WA P N cfg b Q rg σ) Q) rg σ):WA P N cfg (.seq a b) Q rg σ:=
 ⟨rfl,zl (h.h.mono fun e al af he=>by
  cases e with
  |normal=>exact he.h|_=>exact he)⟩
theorem WB(h:Q .normal rg σ):WA P N cfg .skip Q rg σ:=⟨rfl,Gj h⟩
theorem Wy(h:Q .ret rg σ):WA P N cfg .ret Q rg σ:=⟨rfl,Gi h⟩
theorem Ws{id:Nat}(h:Q (.exit id) rg σ):WA P N cfg (.exit id) Q rg σ:=⟨rfl,Gf h⟩
theorem Wq{x:Operand}{a b:AC}{c:Bool}(hx:zw rg x=some c)(h1:c=true->WA P N cfg a Q rg σ)(h2:c=false->WA P N cfg b Q rg σ):WA P N cfg (.cond x a b) Q rg σ:=⟨rfl,Ci (aaL hx) (fun e=>(h1 e).h) (fun e=>(h2 e).h)⟩
theorem Wp{id:Nat}{a:AC}(h:WA P N cfg a (oy id Q) rg σ):WA P N cfg (.block id a) Q rg σ:=⟨rfl,zj h.h⟩
theorem Ms{ks:List Nat}{a:AC}(hk:lL ks rg=some al)(h:WA P N cfg a Q al σ):WA P N cfg (.aH ks a) Q rg σ:=⟨rfl,SW.eP ks (by rw[C6 hk];exact h.h)⟩
theorem Wu{a:AC}(I:Nat->ag->Store->Prop)(n:Nat)(h0:I n rg σ)(h:∀n rg σ,I n rg σ->WA P N cfg a (qC (fun al af=>∃n',n'<n/\I n' al af) Q) rg σ):WA P N cfg (.loop a) Q rg σ:=
 ⟨rfl,Gg I n h0 fun n rg σ hi=>(h n rg σ hi).h⟩
theorem WA.mono{a:AC}{Q':Exit->ag->Store->Prop}(h:WA P N cfg a Q rg σ)(hq:∀e rg σ,Q e rg σ->Q' e rg σ):WA P N cfg a Q' rg σ:=⟨rfl,h.h.mono hq⟩
theorem aaH{id ql:Nat}(e:Nat.beq ql id=true)(h:Q .normal rg σ):oy id Q (.exit ql) rg σ:=by simp only[oy];simp_all
theorem aaG{id ql:Nat}(e:Nat.beq ql id=false)(h:Q (.exit ql) rg σ):oy id Q (.exit ql) rg σ:=by simp only[oy];rw[Z9 (fun k=>by simp_all)];grind
def Fin(eM:Store)(r:AV)(x:AV)(σ:Store):Prop:=Wk x r/\Sub eM σ
theorem Fin.intro{eM:Store}{r x:AV}(h:Sub eM σ)(e:x=r):Fin eM r x σ:=⟨Wk.ED e,h⟩
def s7(x:AV):Option (List AV):=match x.cells? with
 |some l=>kE l some|none=>none
theorem CG{x:AV}{l:List AV}(h:s7 x=some l):x.cells? =some l:=by
 unfold s7 at h;split at h
 .rename_i e;have h:=j3 h;cases h;exact e
 .cases h
variable {aq cf:List Nat}{ix:Nat}{ld:List CD}
def R6(aq cf:List Nat)(rg:ag):aB->Bool
 |.load a n x=>mY aq cf rg (.load a n x)|.store n x y=>oa aq cf rg (.store n x y)|.box .. |.alloc .. |.append .. |.exts .. |.panic .. =>false|_=>true
theorem Nc{cfg:Nat->Nat}(hc:op.cls=0)(h:dk cfg d rg σ op=some (p,v,af)):af=σ:=by
 cases op
 case load=>cases hc
 case store=>cases hc
 case alloc=>cases hc
 case box=>cases hc
 case append=>cases hc
 case exts=>cases hc
 case panic=>cases hc
 case len s x=>cases s<;>(simp only[dk]at h;grind)<;>cases h<;>rfl
 all_goals simp only[dk,reduceCtorEq]at h
 all_goals(repeat' split at h)
 all_goals first
  |grind
  |grind
  |(have:=jb h;grind)
  |(have:=j3 h;grind)
  |(have:=vg h;cases this;rfl)
  |(have h2:=(tW h).2;(repeat' split at h2)<;>first|(cases h2;done)|(cases h2;rfl)|(have:=jb h2;cases this;rfl)|(have:=j3 h2;cases this;rfl))
theorem abI{K:AV->Prop}(hc:op.cls=0)(h:dk cfg d rg σ op=some (p,v,af))(hp:p)(k:K v):aM P cfg d rg σ K op:=by
 have hs:=CT (P:=P) (K:=fun x _=>K x) (E:=fun _ _=>False) h hp k;cases op with
 |TO t ah parts=>
  simp only[aM];simp only[dk]at h;split at h
  .split at h
   .have:=vg h;grind
   .have:=vg h;grind
   grind
  grind
 |len s x=>
  cases s with
  |true=>exact hs|false=>
   simp only[aM];simp only[dk]at h;split at h
   .grind
   .grind
   .grind
   .grind
   grind
 |call f args=>cases h|fZ f args=>cases h|cL op ty ti args=>cases h|exts op ty ti args=>cases hc|panic x=>cases hc|box t x=>cases hc|alloc t x=>cases hc|store n t x=>cases hc|append t n k z x y=>cases hc|load a n x=>cases hc|_=>exact hs
end
section
variable {P:Program}[Glob P]{cfg:Nat->Nat}{K:ag->Store->Prop}{E:List PanicEntry->Store->Prop}{rg:ag}{σ:Store}{l:List CI}{d:Option Nat}{op:aB}{aq cf:List Nat}{ix:Nat}{ld:List CD}
end
theorem Pure.run{P:Program}[Glob P][ij P]{f:FuncId}{fn:Func}{fc:FC}{as:List AV}{r:AV}{a:AC}(cfg:Nat->Nat)(hf:P.funcs[f]? =some fn)(hc:j0 P fn=some fc)(ha:fc.code=a.erase)(hlen:as.length<=fc.N)
  (h:∀σ,WA P fc.N cfg a (ni fc.res r σ) (fJ 0 as) σ):Pure P f as r:=
 Pure.intro hf hc hlen fun σ=>by rw[ha];exact(h σ).h
theorem Spec.run{P:Program}[Glob P][ij P]{f:FuncId}{fn:Func}{fc:FC}{as:List AV}{σ:Store}{Q:ik->Store->Prop}{a:AC}(cfg:Nat->Nat)(hf:P.funcs[f]? =some fn)(hc:j0 P fn=some fc)(ha:fc.code=a.erase)(hlen:as.length<=fc.N)
  (h:WA P fc.N cfg a (lZ fc.res Q) (fJ 0 as) σ):Spec P f as σ Q:=
 Spec.intro hf hc hlen (by rw[ha];exact h.h)
def LZ(I:Nat->ag->Store->Prop)(n:Nat)(ks:List Nat)(rg:ag)(σ:Store):Prop:=∃n' al,n'<n/\lL ks rg=some al/\I n' al σ
section
variable {P:Program}[Glob P]{N:Nat}{cfg:Nat->Nat}{Q:Exit->ag->Store->Prop}{K:ag->Store->Prop}{E:List PanicEntry->Store->Prop}{rg al:ag}{σ af:Store}{l:List CI}{d:Nat}{op:aB}{p:Prop}{v:AV}
variable {aq cf:List Nat}{ix:Nat}{ld:List CD}
theorem LZ.intro{I:Nat->ag->Store->Prop}{n:Nat}{ks:List Nat}(hk:lL ks rg=some al)(h:∃n',n'<n/\I n' al σ):LZ I n ks rg σ:=h.elim fun n' h=>⟨n',al,h.1,hk,h.2⟩
def zS(x:AV):Option (FuncId×Array Value×Array Value):=match x with
 |.v (.func (.func f) a c)=>some (f,a,c)|_=>none
theorem HW{x:AV}{f:FuncId}{a c:Array Value}(h:zS x=some (f,a,c)):x= .v (.func (.func f) a c):=by
 unfold zS at h;split at h
 .cases h;rfl
 .cases h
def me(x:AV):Option (Nat×List (List AV)):=match x with
 |.sl _ e rows=>some (e,rows)|.own e _ _ _ _ rows=>some (e,rows)|_=>none
theorem yC{x:AV}{e:Nat}{rows:List (List AV)}(h:me x=some (e,rows)):(∃nn,x= .sl nn e rows)\/∃t b u c,x= .own e t b u c rows:=by
 unfold me at h;split at h
 .simp_all
 .simp_all
 grind
def iT(x:AV):Option Int:=match x with
 |.v (.int _ n)=>some n|_=>none
theorem rI{x:AV}{n:Int}(h:iT x=some n):∃q,x= .v (.int q n):=by
 unfold iT at h;split at h
 .cases h;exact⟨_,rfl⟩
 .cases h
end
theorem Fin.wk{eM σ:Store}{r x:AV}(h:Sub eM σ)(w:Wk x r):Fin eM r x σ:=⟨w,h⟩
theorem bt{p:Prop}[Decidable p](h:p):AV.v (.bool true)=AV.v (.bool (decide p)):=by rw[Y7 h]
theorem bf{p:Prop}[Decidable p](h:¬p):AV.v (.bool false)=AV.v (.bool (decide p)):=by rw[Zp h]
