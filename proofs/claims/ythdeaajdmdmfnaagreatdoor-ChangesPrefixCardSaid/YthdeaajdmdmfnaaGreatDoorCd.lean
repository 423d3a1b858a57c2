/- catalog.direct: what an expression directly uses goes into two maps. -/
import Derived.Test.YthdeaajdmdmfnaaGreatDoorCc
set_option linter.unusedVariables false
set_option linter.unusedSimpArgs false
namespace Go.Proofs.YthdeaajdmdmfnaaGreatDoor
open _root_.Go.Proofs.Tryz
open Go.RowKit Go.Proofs Go.Tb
open Go.Sx (AV Mem RL R M0 Glob)
abbrev cB(w:World)(b:Nat)(L:List af):Prop:=set w prog 9 4 b L
theorem ze{ops:Array Oper}{rest:List Oper}{o:Oper}{a:Act}{w:World}{Q:Exit→Act→World→Prop}(lU:o.guard=none)(ty:TypeId)(x:Operand)(ho:o.op= .load ty x)
  (b off:Nat) (hx:a.eval x= .pointer (some ⟨b,off,none⟩)) (C:Array Value) (hc:∀ j (hj:j<C.toList.length),w.cell? ⟨b,off+j,none⟩=some C.toList[j]) (ht:Sx.eH prog ty=some (true,C.toList.length))
  (h:wpList prog ops Q rest (a.put o.dst (.agg C)) w):wpList prog ops Q (o::rest) a w:=
 wpList_plain lU fun _ hK=>by
  have hr:(Instr.loadAt ty (.pointer (some ⟨b,off,none⟩))).run prog w= .ok (.agg C.toList.toArray) w:=by
   obtain⟨h1,h2⟩:=Sx.wM ht w
   simp only[Instr.loadAt,Instr.sureAddr,loadVar,Sem.run_bind,Sem.run_pure,Result.andThen_ok,h1]
   simp only[YX,Sem.run_bind,h2,Result.andThen_ok,Sx.Be b off C.toList.length C.toList rfl hc,Sem.run_pure]
  unfold Oper.wp execOp
  simp only[ho,hx,hr,Sem.run_bind,Result.andThen_ok,Sem.run_pure,XB]
  exact hK _ _ h
theorem mE{M:Mem}{nn:Bool}{ah:Nat}{rows:List (List AV)}{v:Value}(h:R M (.sl nn ah rows) v):
  ∃ a cap,v= .slice a rows.length cap∧∀ i (hi:i<rows.length),∃ bb off,a=some ⟨bb,off,none⟩∧∃ cs:List Value,RL M rows[i] cs∧cs.length=ah∧∀ j (hj:j<cs.length),M bb (off+i * ah+j)=some cs[j]:=by
 cases h with
 |nil _ _ a _=>exact⟨a,0,rfl,fun i hi=>absurd hi (by simp)⟩
 |sl _ _ _ b off cap cs bg hM hR hc hm=>
  refine⟨_,cap,rfl,fun i hi=>⟨b,off,rfl,(List.range ah).map fun j=>cs (i * ah+j),⟨by rw[bg i hi];simp,fun j h1 h2=> ?_⟩,by simp,fun j hj=> ?_⟩⟩
  ·simp only[Zu,Xu];exact hR i hi j h1
  ·simp only[Zu,Xu]
   have dK:j<ah:=by simpa using hj
   rw[Nat.add_assoc]
   refine hM _ ?_
   have:=Y9 ah (show i+1≤rows.length from hi)
   rw[YI,Nat.one_mul]at this
   omega
theorem Sg{M:Mem}{nn:Bool}{ah:Nat}{rows:List (List AV)}{v:Value}(h:R M (.sl nn ah rows) v):rows.length≤maxLen:=by
 rcases h.nj with⟨a,_,h,rfl⟩|⟨b,off,cap,cs,rfl,hr,h4,h5⟩
 ·subst_vars;simp
 ·omega
theorem zf{M:Mem}{nn:Bool}{ah:Nat}{rows:List (List AV)}{v:Value}(h:R M (.sl nn ah rows) v):∃ a n c,v= .slice a n c:=by
 obtain⟨a,c,h,_⟩:=mE h;exact⟨a,_,c,h⟩
theorem aaT{M:Mem}{x:Ex}{cs:Array Value}(h:RL M x.cells cs.toList):∃ aU nU cU aA cA v4 v5 v6 v8 v9 v10,cs= #[.int .i64 x.kind,.string x.op,.string x.name,.string x.table,v4,v5,v6,.slice aU nU cU,v8,v9,v10,.slice aA x.args.length cA]∧x.args.length≤maxLen∧
  ∀ i (hi:i<x.args.length),∃ bb off,aA=some ⟨bb,off,none⟩∧∃ C:Array Value,RL M (x.args.getD i default).cells C.toList∧C.toList.length=12∧∀ j (hj:j<C.toList.length),M bb (off+i * 12+j)=some C.toList[j]:=by
 rw[congrFun Ex.o3 x]at h
 obtain⟨v0,l0,e0,h0,h⟩:=h.aX
 obtain⟨v1,l1,rfl,h1,h⟩:=h.aX
 obtain⟨v2,l2,rfl,h2,h⟩:=h.aX
 obtain⟨v3,l3,rfl,h3,h⟩:=h.aX
 obtain⟨v4,l4,rfl,h4,h⟩:=h.aX
 obtain⟨v5,l5,rfl,h5,h⟩:=h.aX
 obtain⟨v6,l6,rfl,h6,h⟩:=h.aX
 obtain⟨v7,l7,rfl,h7,h⟩:=h.aX
 obtain⟨v8,l8,rfl,h8,h⟩:=h.aX
 obtain⟨v9,l9,rfl,h9,h⟩:=h.aX
 obtain⟨v10,l10,rfl,CN,h⟩:=h.aX
 obtain⟨v11,l11,rfl,sj,h⟩:=h.aX
 obtain rfl:=h.pX
 obtain⟨aU,nU,cU,rfl⟩:=zf h7
 have hlen:=Sg sj
 rw[ZW]at hlen
 obtain⟨aA,cA,rfl,hA⟩:=mE sj
 refine⟨aU,nU,cU,aA,cA,v4,v5,v6,v8,v9,v10,?_,hlen,fun i hi=> ?_⟩
 ·rw[h0.ay,h1.ay,h2.ay,h3.ay]at e0
  rw[← Array.toList_inj,e0,ZW]
 ·obtain⟨bb,off,e,bO,g1,g2,g3⟩:=hA i (by rw[ZW];exact hi)
  refine⟨bb,off,e,bO.toArray,?_,by simpa using g2,fun j hj=>by simpa using g3 j (by simpa using hj)⟩
  rw[Zu]at g1
  rw[show x.args.getD i default=x.args[i] by simp[Z3,hi]]
  simpa using g1
theorem Cx:∀ (l l':List Ex),Ex.eJ (l++l')=Ex.eJ l++Ex.eJ l'
 |[],l'=>by simp[Ex.eJ]
 |x::l,l'=>by rw[ZG,Ex.eJ,Cx l l',Ex.eJ,Zb]
theorem EK:∀ (l l':List Ex),Ex.cI (l++l')=Ex.cI l++Ex.cI l'
 |[],l'=>by simp[Ex.cI]
 |x::l,l'=>by rw[ZG,Ex.cI,EK l l',Ex.cI,Zb]
theorem Mh(l:List Ex){k:Nat}(h:k<l.length):l.take (k+1)=l.take k++[l.getD k default]:=by
 rw[ZC h,Z3,Z1 h];rfl
theorem Gq(l:List Ex){k:Nat}(h:k<l.length):Ex.eJ (l.take (k+1))=Ex.eJ (l.take k)++(l.getD k default).bS:=by
 rw[Mh l h,Cx];simp[Ex.eJ]
theorem KG(l:List Ex){k:Nat}(h:k<l.length):Ex.cI (l.take (k+1))=Ex.cI (l.take k)++(l.getD k default).eU:=by
 rw[Mh l h,EK];simp[Ex.cI]
theorem aa6(l:List Ex){k:Nat}(h:k<l.length){s:af}(hs:s∈(l.getD k default).bS):s∈Ex.eJ l:=by
 have e:=Cx (l.take (k+1)) (l.drop (k+1))
 rw[Y7,Gq l h]at e
 rw[e];exact Zm _ (Y6 _ hs)
theorem aiQ(l:List Ex){k:Nat}(h:k<l.length){s:af}(hs:s∈(l.getD k default).eU):s∈Ex.cI l:=by
 have e:=EK (l.take (k+1)) (l.drop (k+1))
 rw[Y7,KG l h]at e
 rw[e];exact Zm _ (Y6 _ hs)
theorem aa5(l:List Ex)(k:Nat):(Ex.eJ (l.take k)).length≤(Ex.eJ l).length:=by
 have e:=Cx (l.take k) (l.drop k)
 rw[Y7]at e
 rw[e,Z4];omega
theorem aiP(l:List Ex)(k:Nat):(Ex.cI (l.take k)).length≤(Ex.cI l).length:=by
 have e:=EK (l.take k) (l.drop k)
 rw[Y7]at e
 rw[e,Z4];omega
theorem afg{w:World}{bF bT:Nat}{LF LT:List af}(hF:cB w bF LF)(hT:cB w bT LT):yN w [bF,bT]:=QK hF.isMap (QK hT.isMap (QL w))
theorem P5(w:World)(o:Obj)(C:Array Value)(l:List Nat):bw w ((w.alloc o).setRow w.heap.size C) l:=by
 refine⟨rfl,rfl,rfl,?_,fun k hk _=> ?_⟩
 ·show w.heap.size≤((w.alloc o).setRow w.heap.size C).heap.size
  simp[World.setRow]
 ·rw[setRow_other _ _ _ _ (by omega)];exact heap_alloc_old _ _ hk
theorem Ms{w w1:World}{cs:Array Value}{t:TypeId}{l:List Nat}(hk:bw (w.alloc (.cells cs t)) w1 l)(hn:w.heap.size∉l){j:Nat}{v:Value}(h:cs[j]? =some v):w1.cell? ⟨w.heap.size,j,none⟩=some v:=by
 have h1:w1.heap[w.heap.size]? =some (.cells cs t (0,0)):=(hk.block w.heap.size (by simp) hn).trans (heap_alloc_new _ _)
 simpa[World.cell?,h1]using h
def Fe(x:Ex):Prop:=
 ∀ (M:Mem) (w:World) (_:Sx.Inv prog M ⟨w,M⟩ [] w) (cs:Array Value) (_:RL M x.cells cs.toList) (bF bT:Nat) (LF LT:List af) (_:cB w bF LF) (_:cB w bT LT) (_:bF≠bT),
  LF.length+x.bS.length≤1099511627776→LT.length+x.eU.length≤1099511627776→(∀ s∈x.bS,s.size≤maxLen)→(∀ s∈x.eU,s.size≤maxLen)→
  Calls prog 180 #[.agg cs,.map (some bF),.map (some bT)] w fun e w'=>(∃ v,e= .returned v)∧cB w' bF (fO LF x.bS)∧cB w' bT (fO LT x.eU)∧bw w w' [bF,bT]
theorem aa7(x:Ex):x.bS=(if x.kind=3∨x.kind=4 then[x.name]else[])++Ex.eJ x.args:=by cases x;rw[Ex.bS];rfl
theorem aiR(x:Ex):x.eU=(if x.kind=5 then[x.table]else[])++Ex.cI x.args:=by cases x;rw[Ex.eU];rfl
set_option maxHeartbeats 4000000 in
set_option maxRecDepth 1000000 in
theorem aaw(x:Ex)(ih:∀ k,k<x.args.length→Fe (x.args.getD k default)):Fe x:=by
 intro M w hI cs hR bF bT LF LT hF hT aE Ix Iy hs ht
 obtain⟨aU,nU,cU,aA,cA,v4,v5,v6,v8,v9,v10,rfl,hlen,hA⟩:=aaT hR
 unfold maxLen at hlen
 have Hq:=afg hF hT
 have OJ:(1099511627776:Nat)<maxLen:=by decide
 have po:=aa7 x
 have I3:=aiR x
 rw[po]at Ix hs
 rw[I3]at Iy ht
 rw[po,I3]
 clear po I3 hR
 obtain⟨a,ha⟩:∃ a:List af,a=if x.kind=3∨x.kind=4 then[x.name]else[]:=⟨_,rfl⟩
 obtain⟨b,hb⟩:∃ b:List af,b=if x.kind=5 then[x.table]else[]:=⟨_,rfl⟩
 rw[← ha]at Ix hs ⊢
 rw[← hb]at Iy ht ⊢
 rw[Z4]at Ix Iy
 have sk:cB (w.alloc (.cells #[.int .i64 x.kind,.string x.op,.string x.name,.string x.table,v4,v5,v6,.slice aU nU cU,v8,v9,v10,.slice aA x.args.length cA] 35)) bF LF:=hF.alloc _
 have xt:cB (w.alloc (.cells #[.int .i64 x.kind,.string x.op,.string x.name,.string x.table,v4,v5,v6,.slice aU nU cU,v8,v9,v10,.slice aA x.args.length cA] 35)) bT LT:=hT.alloc _
 have xj:bw w (w.alloc (.cells #[.int .i64 x.kind,.string x.op,.string x.name,.string x.table,v4,v5,v6,.slice aU nU cU,v8,v9,v10,.slice aA x.args.length cA] 35)) [bF,bT]:=(bw.refl w _).alloc _
 go_enter func180,ntmps180
 have abX:x.kind=3∨x.kind=4∨x.kind=5∨(x.kind≠3∧x.kind≠4∧x.kind≠5):=by omega
 have hAdd:=fun(hk:x.kind=3∨x.kind=4)=>(show a=[x.name]∧b=[]from⟨by rw[ha,ZV hk],by rw[hb,Z7 (by omega)]⟩)
 have zG:=fun(hk:x.kind=5)=>(show a=[]∧b=[x.table]from⟨by rw[ha,Z7 (by omega)],by rw[hb,ZV hk]⟩)
 have zE:=fun(hk:x.kind≠3∧x.kind≠4∧x.kind≠5)=>(show a=[]∧b=[]from⟨by rw[ha,Z7 (by omega)],by rw[hb,Z7 (by omega)]⟩)
 clear ha hb
 have HG:=hF.lt
 have hbT:=hT.lt
 obtain⟨Rel,ph⟩:∃ Rel:Nat→World→Prop,∀ k wr,Rel k wr↔(k≤x.args.length∧cB wr bF (fO LF (a++Ex.eJ (x.args.take k)))∧cB wr bT (fO LT (b++Ex.cI (x.args.take k)))∧bw w wr [bF,bT]):=⟨_,fun _ _=>Iff.rfl⟩
 have xq:∀ wr,cB wr bF (fO LF a)→cB wr bT (fO LT b)→bw w wr [bF,bT]→Rel 0 wr:=fun wr h1 h2 h3=>(ph 0 wr).2 ⟨ZM _,by simpa[Ex.eJ]using h1,by simpa[Ex.cI]using h2,h3⟩
 have He:∀ wr,Rel x.args.length wr→cB wr bF (fO LF (a++Ex.eJ x.args))∧cB wr bT (fO LT (b++Ex.cI x.args))∧bw w wr [bF,bT]:=fun wr h=>by
  obtain⟨_,h1,h2,h3⟩:=(ph _ _).1 h
  rw[Yr]at h1 h2
  exact⟨h1,h2,h3⟩
 have NU:∀ k,k<x.args.length→∀ wr,Rel k wr→∀ (W:World) (C:Array Value),RL M (x.args.getD k default).cells C.toList→bw wr W []→
   Calls prog 180 #[.agg C,.map (some bF),.map (some bT)] W fun e w'=>(∃ v,e= .returned v)∧Rel (k+1) w':=fun k hk wr hr W C hC hW=>by
  obtain⟨_,h1,h2,h3⟩:=(ph _ _).1 hr
  have N3:bw w W [bF,bT]:=h3.trans hW (by simp)
  have zK:=iF h1 hW (by simp)
  have hT2:=iF h2 hW (by simp)
  have l1:=DE (a++Ex.eJ (x.args.take k)) LF
  have l2:=DE (b++Ex.cI (x.args.take k)) LT
  have m1:=aa5 x.args (k+1)
  have m2:=aiP x.args (k+1)
  rw[Gq _ hk]at m1
  rw[KG _ hk]at m2
  rw[Z4]at l1 l2 m1 m2
  refine(ih k hk M W (Jk hI N3 Hq) C hC bF bT _ _ zK hT2 aE (by omega) (by omega) (fun s h=>hs s (Y6 _ (aa6 _ hk h))) (fun s h=>ht s (Y6 _ (aiQ _ hk h)))).mono fun e w' ⟨g1,g2,g3,g4⟩=>⟨g1,?_⟩
  refine(ph _ _).2 ⟨hk,?_,?_,N3.trans g4 (by simp)⟩
  ·rw[Gq _ hk,← Zb,Ps];exact g2
  ·rw[KG _ hk,← Zb,Ps];exact g3
 have G4:∀ k,k<x.args.length→∀ wr,Rel k wr→∃ bb off,aA=some ⟨bb,off,none⟩∧∃ C:Array Value,RL M (x.args.getD k default).cells C.toList∧C.toList.length=12∧∀ j (hj:j<C.toList.length),wr.cell? ⟨bb,off+k * 12+j,none⟩=some C.toList[j]:=fun k hk wr hr=>by
  obtain⟨_,h1,h2,h3⟩:=(ph _ _).1 hr
  obtain⟨bb,off,e,C,g1,g2,g3⟩:=hA k hk
  exact⟨bb,off,e,C,g1,g2,fun j hj=>(Jk hI h3 Hq).bL _ _ _ (g3 j hj)⟩
 clear ph Hq hA ih hI
 rcases abX with hk|hk|hk|hk
 obtain⟨rfl,rfl⟩:=hAdd (.inl hk)
 rw[hk]at sk xt xj ⊢
 clear hk hAdd zG zE
 rotate_left
 obtain⟨rfl,rfl⟩:=hAdd (.inr hk)
 rw[hk]at sk xt xj ⊢
 clear hk hAdd zG zE
 rotate_left
 obtain⟨rfl,rfl⟩:=zG hk
 rw[hk]at sk xt xj ⊢
 clear hk hAdd zG zE
 rotate_left
 obtain⟨rfl,rfl⟩:=zE hk
 have It:(x.kind == 3)=false:=by simpa using hk.1
 have hk4:(x.kind == 4)=false:=by simpa using hk.2.1
 have hk5:(x.kind == 5)=false:=by simpa using hk.2.2
 clear hk hAdd zG zE
 rotate_left
 go_wp2_with (first|(at_mapUpdate;refine K8 _ rfl _ _ _ 200 rfl underlying9 underlying4 underlying200 bF LF rfl sk (by omega) x.name rfl (hs _ (by simp)) rfl ?_;intro w1 C0 ij;have xk:=xj.trans (bw.kY ij) (by simp);have xm:=iF xt (bw.kY ij) (by simp;omega);have Wz:w1.cell? ⟨w.heap.size,11,none⟩=some (.slice aA x.args.length cA):=Ms (bw.kY ij) (by simp;omega) rfl;clear ij)|(at_mapUpdate;refine K8 _ rfl _ _ _ 200 rfl underlying9 underlying4 underlying200 bT LT rfl xt (by omega) x.table rfl (ht _ (by simp)) rfl ?_;intro w1 C0 ij;have xk:=xj.trans (bw.kY ij) (by simp);have xm:=iF sk (bw.kY ij) (by simp;omega);have Wz:w1.cell? ⟨w.heap.size,11,none⟩=some (.slice aA x.args.length cA):=Ms (bw.kY ij) (by simp;omega) rfl;clear ij)|fail)
 all_goals go_loopw [24] (fun i wr=>∃ k:Nat,i= .int .i64 k∧k≤x.args.length∧Rel k wr) (fun i _=>x.args.length-(intOf i).toNat)
 case atStart=>
  refine⟨0,rfl,ZM _,?_⟩
  first|exact xq _ C0 xm xk|fail
 case atStart=>
  refine⟨0,rfl,ZM _,?_⟩
  first|exact xq _ C0 xm xk|fail
 case atStart=>
  refine⟨0,rfl,ZM _,?_⟩
  first|exact xq _ xm C0 xk|fail
 case atStart=>
  refine⟨0,rfl,ZM _,?_⟩
  exact xq _ sk xt xj
 all_goals
  obtain⟨k,rfl,di,hr⟩:=hrel
  by_cases aw:k<x.args.length
  ·obtain⟨bb,off,rfl,C,hC,hl,hcell⟩:=G4 k aw _ hr
   have uG:Sx.eH prog 35=some (true,C.toList.length):=by rw[hl];kernel_rfl
   have NP:C.size=12:=by rw[← hl,ZQ]
   have O0:(prog.info? 35).map (·.size)=some C.size:=by rw[NP];kernel_rfl
   have qD:C.all (·.oneCell')=true:=by rw[← Y1];exact hC.iK (by rw[congrFun Ex.o3 _];rfl)
   clear xq He G4
   go_wp2_with (first
    |(show wpList _ _ _ (⟨some 27,_,_,_,_,_⟩::_) _ _;refine ze rfl 35 (.tmp 26) rfl bb (off+k * 12) rfl C hcell uG ?_)
    |(show wpList _ _ _ (⟨none,.store _ _ _,_,_,_,_⟩::_) _ _;refine wpList_store_row rfl 35 (.tmp 7) (.tmp 27) rfl wr.heap.size C rfl rfl 35 _ (heap_alloc_new _ _) O0 NP.symm qD ?_)
    |(show wpList _ _ _ (⟨some 28,_,_,_,_,_⟩::_) _ _;refine wpList_load_row rfl 35 (.tmp 7) rfl wr.heap.size rfl 35 C (0,0) _ (setRow_heap _ _ _ _ _ _ (heap_alloc_new _ _)) underlying35 rfl O0 ?_)
    |(go_at_call 180;refine(NU k aw _ hr _ C hC (P5 _ _ _ _)).mono ?_))
   rintro e W1 ⟨⟨v,rfl⟩,ey⟩
   go_wp2
   go_roundw
   case rel=>exact⟨k+1,by go_num,aw,ey⟩
   case measure=>simp[intOf];omega
  ·obtain rfl:k=x.args.length:=by omega
   have hE:=He _ hr
   clear xq He G4 NU
   go_wp2
   go_end0
   exact⟨⟨_,rfl⟩,hE⟩
theorem Ex.Kn(x:Ex){k:Nat}(hk:k<x.args.length):(x.args.getD k default).size<x.size:=by
 have h1:=Ex.Sc hk
 have h2:=Ex.Sd x.args (k+1)
 cases x;simp only[Ex.size,Ex.args]at *;omega
theorem MK:∀ (n:Nat) (x:Ex),x.size≤n→Fe x
 |0,x,h=>by cases x;simp[Ex.size]at h
 |n+1,x,h=>aaw x fun k hk=>MK n _ (by
  have:=Ex.Kn x hk;omega)
end Go.Proofs.YthdeaajdmdmfnaaGreatDoor
