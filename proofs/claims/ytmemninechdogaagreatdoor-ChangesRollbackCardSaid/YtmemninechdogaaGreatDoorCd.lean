import Derived.Test.YtmemninechdogaaGreatDoorCc
set_option linter.all false
namespace Go.Proofs.YtmemninechdogaaGreatDoor
open _root_.Go.Proofs.Tryz
open Go.RowKit Go.Proofs Go.Tb
open Go.Sx (AV Mem RL R M0 Glob)
abbrev cz(w:World)(b:Nat)(L:List ae):Prop:=set w prog 9 4 b L
theorem zx{ops:Array Oper}{rest:List Oper}{o:Oper}{a:Act}{w:World}{Q:Exit->Act->World->Prop}(I4:o.guard=none)(ty:TypeId)(x:Operand)(ho:o.op= .load ty x)
  (b off:Nat) (hx:a.eval x= .pointer (some ⟨b,off,none⟩)) (C:Array Value) (hc:∀j (hj:j<C.toList.length),w.cell? ⟨b,off+j,none⟩=some C.toList[j]) (ht:Sx.iH prog ty=some (true,C.toList.length))
  (h:wpList prog ops Q rest (a.put o.dst (.agg C)) w):wpList prog ops Q (o::rest) a w:=
 wpList_plain I4 fun _ hK=>by
  have hr:(Instr.loadAt ty (.pointer (some ⟨b,off,none⟩))).run prog w= .ok (.agg C.toList.toArray) w:=by obtain⟨h1,h2⟩:=Sx.zn ht w;simp only[Instr.loadAt,Instr.sureAddr,loadVar,Sem.run_bind,Sem.run_pure,Result.andThen_ok,h1];simp only[YK,Sem.run_bind,h2,Result.andThen_ok,Sx.E0 b off C.toList.length C.toList rfl hc,Sem.run_pure]
  unfold Oper.wp execOp;simp only[ho,hx,hr,Sem.run_bind,Result.andThen_ok,Sem.run_pure,Array.toArray_toList];exact hK _ _ h
theorem uT{M:Mem}{nn:Bool}{ah:Nat}{rows:List (List AV)}{v:Value}(h:R M (.sl nn ah rows) v):
  ∃a cap,v= .slice a rows.length cap/\∀i (hi:i<rows.length),∃bb off,a=some ⟨bb,off,none⟩/\∃cs:List Value,RL M rows[i] cs/\cs.length=ah/\∀j (hj:j<cs.length),M bb (off+i*ah+j)=some cs[j]:=by
 cases h with
 |nil _ _ a _=>simp_all|sl _ _ _ b off cap cs bl hM hR hc hm=>
  refine⟨_,cap,rfl,fun i hi=>⟨b,off,rfl,(List.range ah).map fun j=>cs (i*ah+j),⟨by grind,fun j h1 h2=>?_⟩,by simp,fun j hj=>?_⟩⟩
  .grind
  .have:=Y4 ah (show i+1<=rows.length from hi);grind
theorem Tv{M:Mem}{nn:Bool}{ah:Nat}{rows:List (List AV)}{v:Value}(h:R M (.sl nn ah rows) v):rows.length<=maxLen:=by
 rcases h.nT with⟨a,_,h,rfl⟩|⟨b,off,cap,cs,rfl,hr,h4,h5⟩
 .grind
 grind
theorem zy{M:Mem}{nn:Bool}{ah:Nat}{rows:List (List AV)}{v:Value}(h:R M (.sl nn ah rows) v):∃a n c,v= .slice a n c:=by obtain⟨a,c,h,_⟩:=uT h;grind
theorem ace{M:Mem}{x:Ex}{cs:Array Value}(h:RL M x.cells cs.toList):∃aU nU cU aA cA v4 v5 v6 v8 v9 v10,cs= #[.int .i64 x.kind,.string x.op,.string x.name,.string x.table,v4,v5,v6,.slice aU nU cU,v8,v9,v10,.slice aA x.args.length cA]/\x.args.length<=maxLen/\
  ∀i (hi:i<x.args.length),∃bb off,aA=some ⟨bb,off,none⟩/\∃C:Array Value,RL M (x.args.getD i default).cells C.toList/\C.toList.length=12/\∀j (hj:j<C.toList.length),M bb (off+i*12+j)=some C.toList[j]:=by
 rw[congrFun Ex.pQ x]at h;obtain⟨v0,l0,e0,h0,h⟩:=h.aZ;obtain⟨v1,l1,rfl,h1,h⟩:=h.aZ;obtain⟨v2,l2,rfl,h2,h⟩:=h.aZ;obtain⟨v3,l3,rfl,h3,h⟩:=h.aZ;obtain⟨v4,l4,rfl,h4,h⟩:=h.aZ;obtain⟨v5,l5,rfl,h5,h⟩:=h.aZ;obtain⟨v6,l6,rfl,h6,h⟩:=h.aZ;obtain⟨v7,l7,rfl,h7,h⟩:=h.aZ;obtain⟨v8,l8,rfl,h8,h⟩:=h.aZ;obtain⟨v9,l9,rfl,h9,h⟩:=h.aZ;obtain⟨v10,l10,rfl,Di,h⟩:=h.aZ;obtain⟨v11,l11,rfl,tu,h⟩:=h.aZ;obtain rfl:=h.qD;obtain⟨aU,nU,cU,rfl⟩:=zy h7;have hlen:=Tv tu;rw[Z5]at hlen;obtain⟨aA,cA,rfl,hA⟩:=uT tu;refine⟨aU,nU,cU,aA,cA,v4,v5,v6,v8,v9,v10,?_,hlen,fun i hi=>?_⟩
 .rw[h0.aC,h1.aC,h2.aC,h3.aC]at e0;grind
 .obtain⟨bb,off,e,cs',g1,g2,g3⟩:=hA i (by grind);refine⟨bb,off,e,cs'.toArray,?_,by grind,fun j hj=>by grind⟩;grind
theorem C5:∀(l l':List Ex),Ex.cX (l++l')=Ex.cX l++Ex.cX l'
 |[],l'=>by rfl|x::l,l'=>by rw[ZB,Ex.cX,C5 l l',Ex.cX,Zq]
theorem Fs:∀(l l':List Ex),Ex.bE (l++l')=Ex.bE l++Ex.bE l'
 |[],l'=>by rfl|x::l,l'=>by rw[ZB,Ex.bE,Fs l l',Ex.bE,Zq]
theorem MI(l:List Ex){k:Nat}(h:k<l.length):l.take (k+1)=l.take k++[l.getD k default]:=by simp_all
theorem Ht(l:List Ex){k:Nat}(h:k<l.length):Ex.cX (l.take (k+1))=Ex.cX (l.take k)++(l.getD k default).bH:=by rw[MI l h,C5];simp[Ex.cX]
theorem Lg(l:List Ex){k:Nat}(h:k<l.length):Ex.bE (l.take (k+1))=Ex.bE (l.take k)++(l.getD k default).dz:=by rw[MI l h,Fs];simp[Ex.bE]
theorem acu(l:List Ex){k:Nat}(h:k<l.length){s:ae}(hs:s∈(l.getD k default).bH):s∈Ex.cX l:=by have e:=C5 (l.take (k+1)) (l.drop (k+1));rw[Y9,Ht l h]at e;grind
theorem alD(l:List Ex){k:Nat}(h:k<l.length){s:ae}(hs:s∈(l.getD k default).dz):s∈Ex.bE l:=by have e:=Fs (l.take (k+1)) (l.drop (k+1));rw[Y9,Lg l h]at e;grind
theorem acs(l:List Ex)(k:Nat):(Ex.cX (l.take k)).length<=(Ex.cX l).length:=by have e:=C5 (l.take k) (l.drop k);simp_all
theorem alB(l:List Ex)(k:Nat):(Ex.bE (l.take k)).length<=(Ex.bE l).length:=by have e:=Fs (l.take k) (l.drop k);simp_all
theorem aia{w:World}{bF bT:Nat}{LF LT:List ae}(hF:cz w bF LF)(hT:cz w bT LT):zf w [bF,bT]:=RN hF.isMap (RN hT.isMap (RO w))
theorem QT(w:World)(o:Obj)(C:Array Value)(l:List Nat):bz w ((w.alloc o).setRow w.heap.size C) l:=by
 refine⟨rfl,rfl,rfl,?_,fun k hk _=>?_⟩
 .simp_all
 .rw[setRow_other _ _ _ _ (by omega)];exact heap_alloc_old _ _ hk
theorem MV{w w1:World}{cs:Array Value}{t:TypeId}{l:List Nat}(hk:bz (w.alloc (.cells cs t)) w1 l)(hn:w.heap.size∉l){j:Nat}{v:Value}(h:cs[j]? =some v):w1.cell? ⟨w.heap.size,j,none⟩=some v:=by have h1:w1.heap[w.heap.size]? =some (.cells cs t (0,0)):=(hk.block w.heap.size (by simp) hn).trans (heap_alloc_new _ _);simpa[World.cell?,h1]using h
def F3(x:Ex):Prop:=
 ∀(M:Mem) (w:World) (_:Sx.Inv prog M ⟨w,M⟩ [] w) (cs:Array Value) (_:RL M x.cells cs.toList) (bF bT:Nat) (LF LT:List ae) (_:cz w bF LF) (_:cz w bT LT) (_:bF≠bT),
  LF.length+x.bH.length<=1099511627776->LT.length+x.dz.length<=1099511627776->(∀s∈x.bH,s.size<=maxLen)->(∀s∈x.dz,s.size<=maxLen)->
  Calls prog 187 #[.agg cs,.map (some bF),.map (some bT)] w fun e w'=>(∃v,e= .returned v)/\cz w' bF (eQ LF x.bH)/\cz w' bT (eQ LT x.dz)/\bz w w' [bF,bT]
theorem acv(x:Ex):x.bH=(if x.kind=3\/x.kind=4 then[x.name]else[])++Ex.cX x.args:=by cases x;rw[Ex.bH];rfl
theorem alE(x:Ex):x.dz=(if x.kind=5 then[x.table]else[])++Ex.bE x.args:=by cases x;rw[Ex.dz];rfl
set_option maxHeartbeats 4000000 in
set_option maxRecDepth 1000000 in
theorem abW(x:Ex)(ih:∀k,k<x.args.length->F3 (x.args.getD k default)):F3 x:=by
 intro M w hI cs hR bF bT LF LT hF hT aW Jc Jd hs ht;obtain⟨aU,nU,cU,aA,cA,v4,v5,v6,v8,v9,v10,rfl,hlen,hA⟩:=ace hR;unfold maxLen at hlen;have Iv:=aia hF hT;have Pw:(1099511627776:Nat)<maxLen:=by decide
 have IX:=acv x;have JB:=alE x;rw[IX]at Jc hs;rw[JB]at Jd ht;rw[IX,JB];clear IX JB hR;obtain⟨a,ha⟩:∃a:List ae,a=if x.kind=3\/x.kind=4 then[x.name]else[]:=⟨_,rfl⟩
 obtain⟨b,hb⟩:∃b:List ae,b=if x.kind=5 then[x.table]else[]:=⟨_,rfl⟩
 rw[<-ha]at Jc hs|-;rw[<-hb]at Jd ht|-;rw[Z7]at Jc Jd;have oE:cz (w.alloc (.cells #[.int .i64 x.kind,.string x.op,.string x.name,.string x.table,v4,v5,v6,.slice aU nU cU,v8,v9,v10,.slice aA x.args.length cA] 35)) bF LF:=hF.alloc _;have oH:cz (w.alloc (.cells #[.int .i64 x.kind,.string x.op,.string x.name,.string x.table,v4,v5,v6,.slice aU nU cU,v8,v9,v10,.slice aA x.args.length cA] 35)) bT LT:=hT.alloc _;have xH:bz w (w.alloc (.cells #[.int .i64 x.kind,.string x.op,.string x.name,.string x.table,v4,v5,v6,.slice aU nU cU,v8,v9,v10,.slice aA x.args.length cA] 35)) [bF,bT]:=(bz.refl w _).alloc _
 go_enter func187,ntmps187
 have adH:x.kind=3\/x.kind=4\/x.kind=5\/(x.kind≠3/\x.kind≠4/\x.kind≠5):=by omega
 have hAdd:=fun(hk:x.kind=3\/x.kind=4)=>(show a=[x.name]/\b=[]from⟨by rw[ha,Z3 hk],by rw[hb,Z9 (by omega)]⟩)
 have zY:=fun(hk:x.kind=5)=>(show a=[]/\b=[x.table]from⟨by rw[ha,Z9 (by omega)],by rw[hb,Z3 hk]⟩)
 have zX:=fun(hk:x.kind≠3/\x.kind≠4/\x.kind≠5)=>(show a=[]/\b=[]from⟨by rw[ha,Z9 (by omega)],by rw[hb,Z9 (by omega)]⟩)
 clear ha hb;have IC:=hF.lt;have hbT:=hT.lt;obtain⟨Rel,pZ⟩:∃Rel:Nat->World->Prop,∀k wr,Rel k wr↔(k<=x.args.length/\cz wr bF (eQ LF (a++Ex.cX (x.args.take k)))/\cz wr bT (eQ LT (b++Ex.bE (x.args.take k)))/\bz w wr [bF,bT]):=⟨_,fun _ _=>Iff.rfl⟩
 have xV:∀wr,cz wr bF (eQ LF a)->cz wr bT (eQ LT b)->bz w wr [bF,bT]->Rel 0 wr:=fun wr h1 h2 h3=>(pZ 0 wr).2 ⟨Z4 _,by simpa[Ex.cX]using h1,by simpa[Ex.bE]using h2,h3⟩;have Iq:∀wr,Rel x.args.length wr->cz wr bF (eQ LF (a++Ex.cX x.args))/\cz wr bT (eQ LT (b++Ex.bE x.args))/\bz w wr [bF,bT]:=fun wr h=>by obtain⟨_,h1,h2,h3⟩:=(pZ _ _).1 h;rw[Yb]at h1 h2;exact⟨h1,h2,h3⟩
 have OJ:∀k,k<x.args.length->∀wr,Rel k wr->∀(W:World) (C:Array Value),RL M (x.args.getD k default).cells C.toList->bz wr W []->
   Calls prog 187 #[.agg C,.map (some bF),.map (some bT)] W fun e w'=>(∃v,e= .returned v)/\Rel (k+1) w':=fun k hk wr hr W C hC hW=>by
  obtain⟨_,h1,h2,h3⟩:=(pZ _ _).1 hr;have OR:bz w W [bF,bT]:=h3.trans hW (by simp);have z7:=iC h1 hW (by simp);have hT2:=iC h2 hW (by simp);have l1:=Eb (a++Ex.cX (x.args.take k)) LF;have l2:=Eb (b++Ex.bE (x.args.take k)) LT;have m1:=acs x.args (k+1);have m2:=alB x.args (k+1);rw[Ht _ hk]at m1;rw[Lg _ hk]at m2;rw[Z7]at l1 l2 m1 m2;refine(ih k hk M W (JO hI OR Iv) C hC bF bT _ _ z7 hT2 aW (by omega) (by omega) (fun s h=>hs s (Y3 _ (acu _ hk h))) (fun s h=>ht s (Y3 _ (alD _ hk h)))).mono fun e w' ⟨g1,g2,g3,g4⟩=>⟨g1,?_⟩
  refine(pZ _ _).2 ⟨hk,?_,?_,OR.trans g4 (by simp)⟩
  .rw[Ht _ hk,<-Zq,Qc];exact g2
  .rw[Lg _ hk,<-Zq,Qc];exact g3
 have Ik:∀k,k<x.args.length->∀wr,Rel k wr->∃bb off,aA=some ⟨bb,off,none⟩/\∃C:Array Value,RL M (x.args.getD k default).cells C.toList/\C.toList.length=12/\∀j (hj:j<C.toList.length),wr.cell? ⟨bb,off+k*12+j,none⟩=some C.toList[j]:=fun k hk wr hr=>by obtain⟨_,h1,h2,h3⟩:=(pZ _ _).1 hr;obtain⟨bb,off,e,C,g1,g2,g3⟩:=hA k hk;exact⟨bb,off,e,C,g1,g2,fun j hj=>(JO hI h3 Iv).bZ _ _ _ (g3 j hj)⟩
 clear pZ Iv hA ih hI;rcases adH with hk|hk|hk|hk
 obtain⟨rfl,rfl⟩:=hAdd (.inl hk);rw[hk]at oE oH xH|-;clear hk hAdd zY zX
 rotate_left
 obtain⟨rfl,rfl⟩:=hAdd (.inr hk);rw[hk]at oE oH xH|-;clear hk hAdd zY zX
 rotate_left
 obtain⟨rfl,rfl⟩:=zY hk;rw[hk]at oE oH xH|-;clear hk hAdd zY zX
 rotate_left
 obtain⟨rfl,rfl⟩:=zX hk;have I8:(x.kind == 3)=false:=by simpa using hk.1
 have hk4:(x.kind == 4)=false:=by simpa using hk.2.1
 have hk5:(x.kind == 5)=false:=by simpa using hk.2.2
 clear hk hAdd zY zX
 rotate_left
 go_wp2_with (first|(at_mapUpdate;refine LK _ rfl _ _ _ 210 rfl underlying9 underlying4 underlying210 bF LF rfl oE (by omega) x.name rfl (hs _ (by simp)) rfl ?_;intro w1 Dv iO;have Dq:=xH.trans (bz.lu iO) (by simp);have xJ:=iC oH (bz.lu iO) (by simp;omega);have c11:w1.cell? ⟨w.heap.size,11,none⟩=some (.slice aA x.args.length cA):=MV (bz.lu iO) (by simp;omega) rfl;clear iO)|(at_mapUpdate;refine LK _ rfl _ _ _ 210 rfl underlying9 underlying4 underlying210 bT LT rfl oH (by omega) x.table rfl (ht _ (by simp)) rfl ?_;intro w1 Dv iO;have Dq:=xH.trans (bz.lu iO) (by simp);have xJ:=iC oE (bz.lu iO) (by simp;omega);have c11:w1.cell? ⟨w.heap.size,11,none⟩=some (.slice aA x.args.length cA):=MV (bz.lu iO) (by simp;omega) rfl;clear iO)|fail)
 all_goals go_loopw [24] (fun i wr=>∃k:Nat,i= .int .i64 k/\k<=x.args.length/\Rel k wr) (fun i _=>x.args.length-(intOf i).toNat)
 case atStart=>
  refine⟨0,rfl,Z4 _,?_⟩;first|exact xV _ Dv xJ Dq|fail
 case atStart=>
  refine⟨0,rfl,Z4 _,?_⟩;first|exact xV _ Dv xJ Dq|fail
 case atStart=>
  refine⟨0,rfl,Z4 _,?_⟩;first|exact xV _ xJ Dv Dq|fail
 case atStart=>
  refine⟨0,rfl,Z4 _,?_⟩;exact xV _ oE oH xH
 all_goals
  obtain⟨k,rfl,cN,hr⟩:=hrel;by_cases az:k<x.args.length
  .obtain⟨bb,off,rfl,C,hC,hl,AN⟩:=Ik k az _ hr;have xY:Sx.iH prog 35=some (true,C.toList.length):=by rw[hl];kernel_rfl
   have OE:C.size=12:=by rw[<-hl,Zu]
   have PR:(prog.info? 35).map (·.size)=some C.size:=by rw[OE];kernel_rfl
   have vO:C.all (·.oneCell')=true:=by rw[<-Yp];exact hC.ov (by rw[congrFun Ex.pQ _];rfl)
   clear xV Iq Ik
   go_wp2_with (first
    |(show wpList _ _ _ (⟨some 27,_,_,_,_,_⟩::_) _ _;refine zx rfl 35 (.tmp 26) rfl bb (off+k*12) rfl C AN xY ?_)
    |(show wpList _ _ _ (⟨none,.store _ _ _,_,_,_,_⟩::_) _ _;refine wpList_store_row rfl 35 (.tmp 7) (.tmp 27) rfl wr.heap.size C rfl rfl 35 _ (heap_alloc_new _ _) PR OE.symm vO ?_)
    |(show wpList _ _ _ (⟨some 28,_,_,_,_,_⟩::_) _ _;refine wpList_load_row rfl 35 (.tmp 7) rfl wr.heap.size rfl 35 C (0,0) _ (setRow_heap _ _ _ _ _ _ (heap_alloc_new _ _)) underlying35 rfl PR ?_)
    |(go_at_call 187;refine(OJ k az _ hr _ C hC (QT _ _ _ _)).mono ?_))
   rintro e W1 ⟨⟨v,rfl⟩,lV⟩
   go_wp2
   go_roundw
   case rel=>exact⟨k+1,by go_num,az,lV⟩
   case measure=>simp[intOf];omega
  .obtain rfl:k=x.args.length:=by omega
   have hE:=Iq _ hr;clear xV Iq Ik OJ
   go_wp2
   go_end0
   exact⟨⟨_,rfl⟩,hE⟩
theorem Ex.BD(x:Ex){k:Nat}(hk:k<x.args.length):(x.args.getD k default).size<x.size:=by have h1:=Ex.Tq hk;have h2:=Ex.Tr x.args (k+1);cases x;simp only[Ex.size,Ex.args]at*;omega
theorem Ns:∀(n:Nat) (x:Ex),x.size<=n->F3 x
 |0,x,h=>by cases x;simp[Ex.size]at h|n+1,x,h=>abW x fun k hk=>Ns n _ (by
  have:=Ex.BD x hk;omega)
