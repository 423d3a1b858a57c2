import Derived.Test.YtmemninechdogaaGreatDoorSxX
set_option linter.all false
namespace Go.Sx
open Go.RowKit
def yz(l:List CI)(a b:Nat):Bool:=match l[a]?,l[b]? with
 |some x,some y=>match x.d with
  |some t=>y.reads.elem t|none=>false
 |_,_=>false
def rZ(l:List CI)(k:Nat):Bool:=(List.range l.length).all fun j=>
 bif Nat.blt j k then(List.range (k+1)).any fun i=>Nat.blt j i&&yz l j i
 else(Nat.beq j k||(List.range j).any fun i=>Nat.ble k i&&yz l i j)
theorem SM{l:List CI}{a b:Nat}(h:yz l a b=true):∃(ha:a<l.length) (hb:b<l.length) (t:Nat),l[a].d=some t/\t∈l[b].reads:=by unfold yz at h;grind
theorem ak7{l:List CI}{k j:Nat}(h:rZ l k=true)(hj:j<k)(hl:j<l.length):∃i,j<i/\i<=k/\yz l j i=true:=by have:=ZA.1 h j (by grind);have e:Nat.blt j k=true:=Xa hj;rw[e]at this;obtain⟨i,h1,h2⟩:=Yh.1 this;rw[Z6]at h2;exact⟨i,ZE h2.1,by grind,h2.2⟩
theorem ak6{l:List CI}{k j:Nat}(h:rZ l k=true)(hj:k<j)(hl:j<l.length):∃i,k<=i/\i<j/\yz l i j=true:=by
 have:=ZA.1 h j (by grind);have e:Nat.blt j k=false:=by
  cases e:Nat.blt j k with
  |false=>rfl|true=>have:j+1<=k:=ZE e;omega
 have e2:Nat.beq j k=false:=by
  cases e:Nat.beq j k with
  |false=>rfl|true=>have:=Z0 e;omega
 rw[e,e2]at this;obtain⟨i,h1,h2⟩:=Yh.1 this;rw[Z6]at h2;exact⟨i,ZE h2.1,YW.1 h1,h2.2⟩
theorem Bt:∀(l l':List CI) (xs ys:List AV) (rg:ag),xs.length=l.length->dE (l++l') (xs++ys) rg=dE l' ys (dE l xs rg)
 |[],l',[],ys,rg,_=>by rfl|c::l,l',x::xs,ys,rg,h=>by exact Bt l l' xs ys _ (by grind)|[],_,_::_,_,_,h=>by grind|_::_,_,[],_,_,h=>by grind
section
variable {P:Program}[Glob P]{M:Mem}{w0:Base}{w:World}{z:Store}{rg:ag}{a:Act}{cfg:Nat->Nat}{N:Nat}
theorem L9{l1 l2:List CI}{s:CI}{Q:Exit->ag->Store->Prop}(cfg:Nat->Nat)(qf:s.op.cls=4\/qt (l1++s::l2) 0=none)(dM:rZ (l1++s::l2) l1.length=true)(mT:s.g=none)
  (h:(∀c∈l1++s::l2,c.op.cls<=1\/(c.op.cls=4/\c.g=none))->∃xs:List AV,xs.length=l1.length/\(∀i (h:i<l1.length) (h':i<xs.length),QV P cfg l1[i] (dE (l1.take i) (xs.take i) rg) z xs[i])/\
   ak P cfg s.d (dE l1 xs rg) z (fun x af=>B0 P cfg (fun al=>Q .normal al af) l2 (bB s.d x (dE l1 xs rg)) af) (fun _ _=>False) s.op/\(∀c∈l1,c.op.cls<=1)):
  SW P N (.de (l1++s::l2)) Q rg z:=by
 intro c hc M w0 a w hI hR hN hD;obtain⟨id,ops,rfl,hl,cr,tE⟩:=fC hc;obtain⟨hlen,x6⟩:=CL ops.toList _ hl;obtain⟨xs,ct,hQ1,Ai,vA⟩:=h (Nu cr);clear h;obtain⟨k,hK⟩:∃k,l1.length=k:=⟨_,rfl⟩
 have vK:k<(l1++s::l2).length:=by simp[hK]
 have Pu:(l1++s::l2)[k]=s:=by simp[<-hK]
 have aei:∀i,i<=k->(l1++s::l2).take i=l1.take i:=fun i hi=>by rw[Zg (by omega)]
 have Pm:∀i (h:i<k) (h':i<(l1++s::l2).length),(l1++s::l2)[i]=l1[i]'(by omega):=fun i h h'=>by simp[hK,h]
 have ad0:(l1++s::l2).length=k+(1+l2.length):=by simp[hK];omega
 have hp4:∀k',qt (l1++s::l2) 0=some k'->k'=k:=by
  intro k' h4;rcases qf with qf|qf
  case inr=>rw[qf]at h4;cases h4
  obtain⟨i,hi,e,h4,vM⟩:=Kp _ _ h4;rcases XN i k with h|h|h
  .exfalso;rw[Pm i h hi]at h4;have:=vA _ (Zb (show i<l1.length by omega));omega
  .omega
  .exfalso;exact vM k h vK (by rw[Pu];exact qf)
 rw[hK]at dM;generalize hL:l1++s::l2=l at*;have hk:=vK;have Az:=Pu;have PS:=aei;have adU:=Pm;have tH:l.length=ops.size:=by simpa using hlen
 have ad1:(l.map (·.d)).Nodup/\∀x∈(l.zip ops.toList).zipIdx,(x.1.2.after.all fun e=>!Region.binds .any e||decide (e.on<x.2))=true/\
   (x.1.1.reads.all fun t=>match posOf t (l.map (·.d)) 0 with
    |some j=>(x.1.2.after.any fun e=>Region.binds .any e&&e.on == j)||(Nat.ble x.2 k&&Nat.blt k j)|none=>true)=true:=by
  rcases cr with cr|cr
  .unfold q6 at cr;simp only[Yp,XI]at cr;simp only[Z6,ZQ]at cr;obtain⟨⟨BE,_⟩,anm⟩:=cr;rw[ZA]at anm;refine⟨BE,fun x hx=>?_⟩;have:=anm x hx;simp only[Z6]at this;refine⟨this.1,ZA.2 fun t ht=>?_⟩;have h3:=ZA.1 this.2 t ht;split at h3
   .rename_i j e;simp only[e];rw[h3];rfl
   .rename_i e;simp only[e]
  .unfold q7 at cr;simp only[Yp,XI]at cr;split at cr
   .cases cr
   .rename_i k' e;simp only[Z6,ZQ]at cr;obtain⟨⟨BE,_⟩,anm⟩:=cr;rw[ZA]at anm;have e':=hp4 k' e;subst e';refine⟨BE,fun x hx=>?_⟩;have:=anm x hx;simp only[Z6]at this;exact this
 obtain⟨BE,anm⟩:=ad1
 have fD:∀i (hi:i<l.length) (ho:i<ops.size),(∀e∈ops[i].after,Region.binds .any e=true->e.on<i)/\∀t∈l[i].reads,(∀c∈l,c.d≠some t)\/(∃j,∃hj:j<l.length,l[j].d=some t/\j<i/\∃e∈ops[i].after,Region.binds .any e=true/\e.on=j)\/
   ∃j,∃hj:j<l.length,l[j].d=some t/\i<=k/\k<j:=by
  intro i hi ho;have hm:((l[i],ops[i]),i)∈(l.zip ops.toList).zipIdx:=by rw[List.mem_zipIdx_iff_getElem?];simp[List.getElem?_zip_eq_some,hi,ho]
  obtain⟨h1,h2⟩:=anm _ hm;have hb:∀e∈ops[i].after,Region.binds .any e=true->e.on<i:=by intro e he lS;have:=ZC.1 h1 e he;simpa[lS]using this
  refine⟨hb,fun t ht=>?_⟩;have h3:=ZA.1 h2 t ht;split at h3
  .rename_i j hj;right;have kM:j<l.length/\(l.map (·.d))[j]? =some (some t):=by
    obtain⟨i',h5,h6⟩:=Kr _ _ hj;obtain rfl:j=i':=by omega
    exact⟨by have:=(ZG.1 h6).1;simpa using this,h6⟩
   obtain⟨ru,jE⟩:=kM;rw[YL]at h3;rcases h3 with h3|h3
   .left;rw[Xy]at h3;obtain⟨m,fg,h4⟩:=h3;simp only[Z6,beq_iff_eq]at h4;refine⟨j,ru,by simpa[ru]using jE,?_,ops[i].after[m],X5 fg,h4.1,h4.2⟩;rw[<-h4.2];exact hb _ (X5 fg) h4.1
   .right;rw[Z6]at h3;exact⟨j,ru,by simpa[ru]using jE,ZE h3.1,ZE h3.2⟩
  .rename_i hj;left;intro c hc e;exact Kq _ _ hj (by rw[<-e];exact Ye hc)
 have xK:∀(XS:List AV) (hX:XS.length=l.length) j (h:j<l.length) t,l[j].d=some t->lk (dE l XS rg) t=XS[j]'(by omega):=fun XS hX j h t ht=>Bb l XS rg BE hX j h (by omega) t ht;have xR:∀(XS:List AV) t,(∀c∈l,c.d≠some t)->lk (dE l XS rg) t=lk rg t:=fun XS t ht=>wj l XS rg t ht;have D4:∀j j' t,(hj:j<l.length)->(dU:j'<l.length)->l[j].d=some t->l[j'].d=some t->j=j':=by
  intro j j' t hj dU cM x7;have oU:=Yo.1 BE;rcases XN j j' with h|h|h
  .exact((oU j j' (by simpa using hj) (by simpa using dU) h) (by simp[cM,x7])).elim
  .exact h
  .exact((oU j' j (by simpa using dU) (by simpa using hj) h) (by simp[cM,x7])).elim
 refine G3 tE ?_
 have main:∀(fuel:Nat) (listed:Array Bool) (a:Act) (w:World),listed.size=ops.size->((List.range ops.size).filter (fun i=>!listed.getD i true)).length<=fuel->
   (∃M2 kq XS,∃hX:XS.length=l.length,M.le M2/\Inv P M2 w0 kq w/\a.tmps.size=N/\a.defers=Glob.df P/\(∀t,(∀j (h:j<l.length),listed.getD j true=true->l[j].d≠some t)->R M2 (lk rg t) (a.tmps.getD t undef))/\
    (∀j (h:j<l.length) t,listed.getD j true=true->l[j].d=some t->R M2 (XS[j]'(by omega)) (a.tmps.getD t undef))/\
    (∀j (h:j<l.length),listed.getD j true=true->∀t∈l[j].reads,∀i (hi:i<l.length),l[i].d=some t->i<j->listed.getD i true=true)/\
    (((∀j,k<=j->j<l.length->listed.getD j true=false)/\kq=z/\XS.take k=xs)\/
     ((∀j,j<=k->listed.getD j true=true)/\(∃fF,Q .normal fF kq/\∀i,lk fF i=lk (dE l XS rg) i)/\∀j (h:j<l.length),k<j->QV P cfg l[j] (dE (l.take j) (XS.take j) rg) kq (XS[j]'(by omega)))))->
   wpAny P .any ops (jr P M w0 N Q) fuel listed a w:=by
  have fin:∀(listed:Array Bool) (a:Act) (w:World),(∀i,i<ops.size->listed.getD i true=true)->(∃M2 kq XS,∃hX:XS.length=l.length,M.le M2/\Inv P M2 w0 kq w/\a.tmps.size=N/\a.defers=Glob.df P/\(∀t,(∀j (h:j<l.length),listed.getD j true=true->l[j].d≠some t)->R M2 (lk rg t) (a.tmps.getD t undef))/\
    (∀j (h:j<l.length) t,listed.getD j true=true->l[j].d=some t->R M2 (XS[j]'(by omega)) (a.tmps.getD t undef))/\
    (∀j (h:j<l.length),listed.getD j true=true->∀t∈l[j].reads,∀i (hi:i<l.length),l[i].d=some t->i<j->listed.getD i true=true)/\
    (((∀j,k<=j->j<l.length->listed.getD j true=false)/\kq=z/\XS.take k=xs)\/
     ((∀j,j<=k->listed.getD j true=true)/\(∃fF,Q .normal fF kq/\∀i,lk fF i=lk (dE l XS rg) i)/\∀j (h:j<l.length),k<j->QV P cfg l[j] (dE (l.take j) (XS.take j) rg) kq (XS[j]'(by omega)))))->jr P M w0 N Q .normal a w:=by
   rintro listed a w bW ⟨M2,kq,XS,hX,g1,g2,g3,g4,g5,g6,g7,⟨h1,_,_⟩|⟨h1,⟨fF,Iu,hF⟩,h3⟩⟩
   .exfalso;have:=bW k (by omega);rw[h1 k (ZO _) hk]at this;cases this
   .refine⟨M2,fF,kq,g1,g2,fun t=>?_,g3,g4,Iu⟩;rw[hF];by_cases ht:∃j,∃h:j<l.length,l[j].d=some t
    .obtain⟨j,hj,cM⟩:=ht;rw[xK XS hX j hj t cM];exact g6 j hj t (bW j (by omega)) cM
    .have hn:∀c∈l,c.d≠some t:=fun c hc e=>by obtain⟨j,hj,rfl⟩:=YO.1 hc;exact ht ⟨j,hj,e⟩
     rw[xR XS t hn];exact g5 t (fun j hj _=>hn _ (Zb hj))
  intro fuel
  induction fuel with
  |zero=>
   intro listed a w bl x3 DX;have bW:∀i,i<ops.size->listed.getD i true=true:=by
    intro i hi;cases oR:listed.getD i true with
    |true=>rfl|false=>
     have:i∈(List.range ops.size).filter (fun i=>!listed.getD i true):=by simp only[Y6,YW,hi,oR,Xt,and_self]
     have:=List.length_pos_of_mem this;omega
   refine⟨?_,fin listed a w bW DX⟩;unfold Region.ready;rw[Yf];intro i hi;simp[bW i (by simpa using hi)]
  |succ fuel ih=>
   intro listed a w bl x3 DX;refine⟨fun hr=>?_,fun i hi=>?_⟩
   ·
    have bW:∀i,i<ops.size->listed.getD i true=true:=by
     intro i
     induction i using Nat.strongRecOn with
     |_ i JK=>
      intro hi;cases oR:listed.getD i true with
      |true=>rfl|false=>
       have:i∈Region.ready .any ops listed:=by
        unfold Region.ready;rw[Y6];refine⟨by simpa using hi,?_⟩;simp only[oR,Xt,Bool.true_and,ZF hi,ZJ,Zm];rw[ZC];intro e he;cases lS:Region.binds .any e with
        |false=>rfl|true=>
         have az:=(fD i (by omega) hi).1 e he lS;have:=JK e.on az (by omega);have h2:listed.getD e.on false=true:=by rw[ZS]at this|-;rw[ZF (by omega)]at this|-;exact this
         simp[h2]
       rw[hr]at this;cases this
    exact fin listed a w bW DX
   .unfold Region.ready at hi;rw[Y6]at hi;obtain⟨oP,jD⟩:=hi;have fM:i<ops.size:=by simpa using oP
    simp only[Z6,YA,ZF fM,ZJ,Zm]at jD;obtain⟨gT,x4⟩:=jD;have bp:i<l.length:=by omega
    have nG:qY P N ops ops[i]=some l[i]:=by have:=x6 i (by simpa using fM) bp;simpa using this
    obtain⟨kK,az⟩:=zC nG;obtain⟨M2,kq,XS,hX,g1,g2,g3,g4,g5,g6,g7,g8⟩:=DX;have kR:∀t∈l[i].reads,∀j (hj:j<l.length),l[j].d=some t->j<i->listed.getD j true=true:=by
     intro t ht j hj cM amR;rcases(fD i bp fM).2 t ht with hn|⟨j',dU,x7,jF,e,he,lS,IU⟩|⟨j',dU,x7,kN,fO⟩
     .exact absurd cM (hn _ (Zb hj))
     .have Av:=D4 j j' t hj dU cM x7;subst Av;have:=ZC.1 x4 e he;simp only[lS,Bool.not_true,Bool.false_or,IU]at this;rw[ZS]at this|-;rw[ZF (by omega)]at this|-;exact this
     .have Av:=D4 j j' t hj dU cM x7;omega
    have lQ:bS M2 (Sx.eP l[i].reads (dE (l.take i) (XS.take i) rg)) a:=by
     intro t;by_cases ht:t∈l[i].reads
     .rw[wZ.Em ht]
      have az:∀j (hj:j<l.length),l[j].d=some t->i<j->lk (dE (l.take i) (XS.take i) rg) t=lk rg t:=fun j hj cM gH=>
       wj _ _ _ _ (fun c hc e=>by
        obtain⟨m,hm,rfl⟩:=YO.1 hc;simp only[ZL]at hm;rw[Xd]at e;have:=D4 m j t (by omega) hj e cM
        omega)
      rcases(fD i bp fM).2 t ht with hn|⟨j,hj,cM,jF,_⟩|⟨j,hj,cM,kN,fO⟩
      .rw[wj _ _ _ _ (fun c hc=>hn c (YT hc))];exact g5 t (fun j hj _=>hn _ (Zb hj))
      .have e1:(l.take i)[j]'(by simp;omega)=l[j]:=by simp
       have e2:(XS.take i)[j]'(by simp;omega)=XS[j]'(by omega):=by simp
       rw[Bb (l.take i) (XS.take i) rg (by rw[XJ];exact BE.sublist (List.take_sublist _ _)) (by simp[hX]) j (by simp;omega) (by simp;omega) t (by rw[e1];exact cM),e2];exact g6 j hj t (kR t ht j hj cM jF) cM
      .rw[az j hj cM (by omega)];refine g5 t (fun j' dU fw e=>?_);have:=D4 j' j t dU hj e cM;subst this;rcases g8 with⟨h1,_,_⟩|⟨h1,_,_⟩
       .rw[h1 j' (by omega) dU]at fw;cases fw
       .rw[h1 i kN]at gT;cases gT
     .rw[wZ.Rg ht];exact .any _
    have vD:∀t∈l[i].reads,lk (dE (l.take i) (XS.take i) rg) t=lk (Sx.eP l[i].reads (dE (l.take i) (XS.take i) rg)) t:=fun t ht=>by rw[wZ.Em ht]
    have step:∀M3 (x:AV) af v w' qP (Ad:qP.length=l.length),M2.le M3->Inv P M3 w0 af w'->R M3 x v->qP[i]'(by omega)=x->(∀j (hj:j<l.length),listed.getD j true=true->qP[j]'(by omega)=XS[j]'(by omega))->
      (((∀j,k<=j->j<l.length->(listed.setIfInBounds i true).getD j true=false)/\af=z/\qP.take k=xs)\/
       ((∀j,j<=k->(listed.setIfInBounds i true).getD j true=true)/\(∃fF,Q .normal fF af/\∀i,lk fF i=lk (dE l qP rg) i)/\∀j (h:j<l.length),k<j->QV P cfg l[j] (dE (l.take j) (qP.take j) rg) af (qP[j]'(by omega))))->
      wpAny P .any ops (jr P M w0 N Q) fuel (listed.setIfInBounds i true) (a.put ops[i].dst v) w':=by
     intro M3 x af v w' qP Ad hM bg hx ye hxj hph;have vV:∀j,j≠i->(listed.setIfInBounds i true).getD j true=listed.getD j true:=fun j hj=>by rw[ZS,Zj,Z9 (fun e=>hj e.symm),ZS]
     have AQ:(listed.setIfInBounds i true).getD i true=true:=by rw[ZS,Zj];simp[bl,fM]
     refine ih _ _ _ (by simp[bl]) ?_ ⟨M3,af,qP,Ad,g1.trans hM,bg,by rw[Act.size_put];exact g3,by rw[Act.zD];exact g4,fun t ht=>?_,fun j hj t j6 cM=>?_,fun j hj j6 t ht j' dU cM Pp=>?_,hph⟩
     .have:=filter_lt (fun i=>!listed.getD i true) (fun k=>!(listed.setIfInBounds i true).getD k true) (List.range ops.size) (fun k _ hk=>by
       simp only[YA]at hk|-;by_cases DL:k=i
       .subst DL;rw[AQ]at hk;cases hk
       .rw[vV k DL]at hk;exact hk) ⟨i,oP,by simpa using gT,by simp only[Bool.not_eq_false'];exact AQ⟩
      omega
     .have aW:ops[i].dst≠some t:=by rw[<-kK];exact ht i bp AQ
      have:=(g5 t (fun j hj hl=>ht j hj (by by_cases e:j=i;·subst e;exact AQ
                                            .rw[vV j e];exact hl))).mono hM
      have e:(a.put ops[i].dst v).tmps.getD t undef=a.tmps.getD t undef:=by
       cases hd:ops[i].dst with
       |none=>rfl|some u=>have vW:u≠t:=fun e=>aW (by rw[hd,e]);simp[Act.put,YD vW]
      rw[e];exact this
     .by_cases gH:j=i
      .subst gH;have hd:ops[j].dst=some t:=by rw[<-kK];exact cM
       have JA:t<a.tmps.size:=by rw[g3];exact az t cM
       have e:(a.put ops[j].dst v).tmps.getD t undef=v:=by simp[hd,Act.put,JA]
       rw[e,ye];exact hx
      .have DN:listed.getD j true=true:=by rw[<-vV j gH];exact j6
       have:=(g6 j hj t DN cM).mono hM;have e:(a.put ops[i].dst v).tmps.getD t undef=a.tmps.getD t undef:=by
        cases hd:ops[i].dst with
        |none=>rfl|some u=>
         have vW:u≠t:=fun e=>by
          subst e;have h1:l[i].d=some u:=kK.trans hd;have oU:=Yo.1 BE;rcases XN i j with h|h|h
          .exact oU i j (by simpa using bp) (by simpa using hj) h (by simp[h1,cM])
          .exact gH h.symm
          .exact oU j i (by simpa using hj) (by simpa using bp) h (by simp[h1,cM])
         simp[Act.put,YD vW]
       rw[e,hxj j hj DN];exact this
     .by_cases Pr:j'=i
      .subst Pr;exact AQ
      .rw[vV j' Pr];by_cases gH:j=i
       .subst gH;exact kR t ht j' dU cM Pp
       .rw[vV j gH]at j6;exact g7 j hj j6 t ht j' dU cM Pp
    unfold wpOp;simp only[ZF fM];rcases g8 with⟨h1,rfl,h3⟩|⟨h1,h2,h3⟩
    ·
     have di:∀j (hj:j<k),XS[j]'(by omega)=xs[j]'(by omega):=fun j hj=>by subst h3;simp
     rcases XN i k with gS|gS|gS
     .have AH:QV P cfg l[i] (dE (l.take i) (XS.take i) rg) kq (XS[i]'(by omega)):=by
       have:=hQ1 i (by omega) (by omega);rw[PS i (by omega),adU i (by omega) bp,di i gS];have e:XS.take i=xs.take i:=by rw[<-h3,List.take_take,Ys (by omega)]
       rw[e];exact this
      have hq:=uO vD AH;refine vh (K:=fun y af=>y=XS[i]'(by omega)/\af=kq) (E:=fun _ _=>False) nG hq g2 lQ ⟨?_,fun _ _ _ _ _ _ h=>h.elim⟩;rintro M3 x af v w' hM bg hx ⟨rfl,rfl⟩;refine step M3 _ _ v w' XS hX hM bg hx rfl (fun _ _ _=>rfl) (.inl ⟨fun j hj kM=>?_,rfl,h3⟩);rw[ZS,Zj,Z9 (by omega),<-ZS];exact h1 j hj kM
     ·
      subst gS;have bW:∀d j,i-j=d->j<i->listed.getD j true=true:=by
       intro d
       induction d using Nat.strongRecOn with
       |_ d ihd=>
        intro j hd hj;obtain⟨j',Av,amQ,oW⟩:=ak7 dM hj (by omega);obtain⟨ha,hb,t,DZ,D3⟩:=SM oW;by_cases e:j'=i
        .subst e;exact kR t D3 j ha DZ Av
        .exact g7 j' hb (ihd (i-j') (by omega) j' rfl (by omega)) t D3 j ha DZ Av
      have hv:cE P cfg l[i] (fun x af=>B0 P cfg (fun al=>Q .normal al af) l2 (bB s.d x (dE l1 xs rg)) af) (fun _ _=>False) (Sx.eP l[i].reads (dE (l.take i) (XS.take i) rg)) kq:=by
       have e0:l.take i=l1:=by rw[PS i (ZO _),ZM (by omega)]
       rw[e0,h3]at vD|-;rw[Az]at vD|-;unfold cE;rw[mT]
       dsimp only
       rw[<-qF (fun t ht=>vD t (Zy _ ht))];exact Ai
      refine vh (E:=fun _ _=>False) nG hv g2 lQ ⟨?_,fun _ _ _ _ _ _ h=>h.elim⟩;rintro M3 x af v w' hM bg hx ⟨ys,vZ,⟨fF,Iu,hF⟩,OV⟩;have rz:=ad0;have JD:xs.length=i:=by omega
      have Ad:(xs++x::ys).length=l.length:=by simp[ct,vZ,rz];omega
      refine step M3 x af v w' (xs++x::ys) Ad hM bg hx (by rw[YS (by omega)];simp[JD]) (fun j hj j6=>?_) (.inr ⟨fun j hj=>?_,⟨fF,Iu,fun t=>?_⟩,fun j hj Pt=>?_⟩)
      .have jF:j<i:=by
        rcases YN j i with h|h
        .exact h
        .rw[h1 j h hj]at j6;cases j6
       rw[di j jF,YI (by omega)]
      .by_cases e:j=i
       .subst e;rw[ZS,Zj];simp[bl,fM]
       .rw[ZS,Zj,Z9 (fun h=>e h.symm),<-ZS];exact bW _ j rfl (by omega)
      .rw[hF,<-hL,Bt l1 (s::l2) xs (x::ys) rg (by omega)];rfl
      .have jE:j-i-1<l2.length:=by omega
       have:=OV (j-i-1) jE (by omega);have e1:l[j]=l2[j-i-1]:=by simp only[<-hL];rw[YS (by omega)];simp only[hK];rw[List.getElem_cons,dif_neg (by omega)]
       have e2:(xs++x::ys)[j]'(by rw[Ad];exact hj)=ys[j-i-1]'(by omega):=by rw[YS (by omega)];simp only[JD];rw[List.getElem_cons,dif_neg (by omega)]
       have e3:l.take j=l1++s::l2.take (j-i-1):=by
        rw[<-hL,List.take_append,ZM (by omega),hK]
        congr 1
        obtain⟨m,hm⟩:∃m,j-i=m+1:=⟨j-i-1,by omega⟩
        rw[hm];rfl
       have e4:(xs++x::ys).take j=xs++x::ys.take (j-i-1):=by
        rw[List.take_append,ZM (by omega),JD]
        congr 1
        obtain⟨m,hm⟩:∃m,j-i=m+1:=⟨j-i-1,by omega⟩
        rw[hm];rfl
       rw[e1,e2,e3,e4,Bt l1 _ xs _ rg (by omega)];exact this
     .exfalso;obtain⟨j',ru,jE,oW⟩:=ak6 dM gS bp;obtain⟨ha,hb,t,DZ,D3⟩:=SM oW;have:=kR t D3 j' ha DZ jE;rw[h1 j' ru ha]at this;cases this
    ·
     have gS:k<i:=by
      rcases YN k i with h|h
      .exact h
      .rw[h1 i h]at gT;cases gT
     have hq:=uO vD (h3 i bp gS);refine vh (K:=fun y af=>y=XS[i]'(by omega)/\af=kq) (E:=fun _ _=>False) nG hq g2 lQ ⟨?_,fun _ _ _ _ _ _ h=>h.elim⟩;rintro M3 x af v w' hM bg hx ⟨rfl,rfl⟩;refine step M3 _ _ v w' XS hX hM bg hx rfl (fun _ _ _=>rfl) (.inr ⟨fun j hj=>?_,h2,h3⟩);rw[ZS,Zj,Z9 (by omega),<-ZS];exact h1 j hj
 refine main ops.size _ a _ (by simp) ?_ ⟨M,z,xs++List.replicate (l.length-k) .any,by simp;omega,Mem.le.refl _,hI.ft,hN,hD,fun t _=>hR t,fun j hj t j6 _=>?_,fun j hj j6=>?_,.inl ⟨fun j _ hj=>?_,rfl,by rw[Zg (by omega),ZM (by omega)]⟩⟩
 .exact ZD (Yd _ _) (by simp)
 .exfalso;have vJ:j<ops.size:=by omega
  simp[vJ]at j6
 .exfalso;have vJ:j<ops.size:=by omega
  simp[vJ]at j6
 .have vJ:j<ops.size:=by omega
  simp[vJ]
theorem Lw{K:ag->Store->Prop}:∀(l:List CI) (rg eK:ag),(∀i,lk rg i=lk eK i)->(∀c∈l,c.op.cls<=1\/(c.op.cls=4/\c.g=none))->da P cfg [] (bare l) K rg z->
  ∃xs:List AV,xs.length=l.length/\(∃al,K al z/\∀i,lk al i=lk (dE l xs eK) i)/\∀i (h:i<l.length) (h':i<xs.length),QV P cfg l[i] (dE (l.take i) (xs.take i) eK) z xs[i]:=yW
theorem Vs{l1 l2:List CI}{s:CI}{f:FuncId}{args:List Operand}{Q:Exit->ag->Store->Prop}(cfg:Nat->Nat)(qf:qt (l1++s::l2) 0=none)(hs:s.op= .call f args)(dM:rZ (l1++s::l2) l1.length=true)(mT:s.g=none)
  (h:da P cfg [] (bare l1) (fun so aR=>∃R:ik->Store->Prop,Spec P f (aL so args) aR R/\(∀x aK,R (.ret x) aK->da P cfg [] (bare l2) (Cl (Q .normal)) (bB s.d x so) aK)/\∀ch aK,R (.ke ch) aK->False) rg z):
  SW P N (.de (l1++s::l2)) Q rg z:=by
 refine zk (L9 cfg (.inr qf) dM mT fun hc=>?_);have vA:=yX l1 rg (fun c h=>hc c (by simp[h])) h;obtain⟨xs,h1,⟨so,⟨R,hR,hK,hE⟩,h3⟩,h4⟩:=Lw l1 rg rg (fun _=>rfl) (fun c h=>hc c (by simp[h])) h;refine⟨xs,h1,h4,?_,vA⟩;rw[<-qF (rg:=so) (fun t _=>h3 t),hs];refine⟨R,hR,fun x af hr=>?_,fun ch af hr=>hE ch af hr⟩;exact yW l2 _ _ (yh h3 s.d x) (fun c h=>hc c (by simp[h])) (hK x af hr)
end
section
variable {P:Program}[Glob P]{N:Nat}{cfg:Nat->Nat}{Q:Exit->ag->Store->Prop}{rg:ag}{z:Store}{k:List Fr}{xr:XR}
def BG(d:Nat):List CI->Option (List CI×CI×List CI)
 |[]=>none|c::l=>bif (match c.d with|some e=>Nat.beq e d|none=>false)then some ([],c,l)else match BG d l with
  |some (a,s,b)=>some (c::a,s,b)|none=>none
theorem Tw{d:Nat}:∀{l a b:List CI} {s:CI},BG d l=some (a,s,b)->l=a++s::b
 |[],_,_,_,h=>by cases h|c::l,a,b,s,h=>by
  simp only[BG]at h;generalize (match c.d with|some e=>Nat.beq e d|none=>false)=q at h;cases q with
  |true=>grind|false=>
   cases h2:BG d l with
   |none=>grind|some p=>rw[h2]at h;cases h;rw[Tw h2];rfl
def uV:List CI->Option (List CI×CI×List CI)
 |[]=>none|c::l=>bif Nat.beq c.op.cls 4 then some ([],c,l)else match uV l with
  |some (a,s,b)=>some (c::a,s,b)|none=>none
theorem G0:∀{l a b:List CI} {s:CI},uV l=some (a,s,b)->l=a++s::b/\s.op.cls=4
 |[],_,_,_,h=>by cases h|c::l,a,b,s,h=>by
  simp only[uV]at h;cases q:Nat.beq c.op.cls 4 with
  |true=>simp_all|false=>
   rw[q]at h;cases h2:uV l with
   |none=>grind|some p=>obtain⟨e,e2⟩:=G0 h2;grind
theorem al5{P:Program}[Glob P]{cfg:Nat->Nat}{d:Option Nat}{rg:ag}{z:Store}{K K':AV->Store->Prop}{E E':List PanicEntry->Store->Prop}{op:aB}(h4:op.cls=4)(hk:∀x af,K x af->K' x af)(h:ak P cfg d rg z K E op):ak P cfg d rg z K' E' op:=by
 cases op<;>simp only[aB.cls,reduceCtorEq,Nat.reduceEqDiff,Nat.zero_ne_add_one]at h4
 .simp only[ak]at h|-;split at h
  .grind
  .grind
  .grind
  grind
 .exact fH.mono h hk
def wX(P:Program)[Glob P](cfg:Nat->Nat)(l2:List CI)(K:ag->Store->Prop)(rg:ag)(z:Store):Prop:=da P cfg [] (bare l2) (Cl K) rg z
def sP(P:Program)[Glob P](cfg:Nat->Nat)(K:ag->Store->Prop)(s:CI)(l2:List CI)(rg:ag)(z:Store):Prop:=fb P cfg [s] (wX P cfg l2 K) (fun _ _=>False) rg z
theorem Mb{P:Program}[Glob P]{N:Nat}{l1 l2:List CI}{s:CI}{Q:Exit->ag->Store->Prop}{rg:ag}{z:Store}(cfg:Nat->Nat)(h4:s.op.cls=4)(dM:rZ (l1++s::l2) l1.length=true)(mT:s.g=none)
  (h:da P cfg [] (bare l1) (sP P cfg (Q .normal) s l2) rg z):SW P N (.de (l1++s::l2)) Q rg z:=by
 refine zk (L9 cfg (.inl h4) dM mT fun hc=>?_);have vA:=yX l1 rg (fun c h=>hc c (by simp[h])) h;obtain⟨xs,h1,⟨so,hM,h3⟩,h4'⟩:=Lw l1 rg rg (fun _=>rfl) (fun c h=>hc c (by simp[h])) h;refine⟨xs,h1,h4',?_,vA⟩;rw[<-qF (rg:=so) (fun t _=>h3 t)];simp only[sP,fb,cE,mT]at hM;refine al5 h4 (fun x af hx=>?_) hM;exact yW l2 _ _ (yh h3 s.d x) (fun c h=>hc c (by simp[h])) hx
theorem WI{l l1 l2:List CI}{s:CI}(hl:uV l=some (l1,s,l2))(dM:rZ l l1.length=true)(mT:s.g=none)(hx:toXO rg=some xr)
  (h:VY P cfg [] (bare l1) (sP P cfg (FK P N cfg Q .normal k) s l2) xr z):WK P N cfg Q (.de l) k rg z:=by
 obtain⟨e,h4⟩:=G0 hl;subst e;refine⟨WA.mono (Q:=fun e=>FK P N cfg Q e k) ⟨rfl,Mb cfg h4 dM mT ?_⟩ fun _ _ _ h=>h.h⟩;have:=h.h;rw[← yP hx,xn]at this;grind
theorem Wm{K:ag->Store->Prop}{s:CI}{l2:List CI}(h:VX P cfg [s] (wX P cfg l2 K) (fun _ _=>False) xr z):VY P cfg [] [] (sP P cfg K s l2) xr z:=⟨h.h⟩
theorem VT{K:ag->Store->Prop}{E:List PanicEntry->Store->Prop}{l2:List CI}(h:VY P cfg [] (bare l2) (Cl K) xr z):VX P cfg [] (wX P cfg l2 K) E xr z:=⟨h.h⟩
