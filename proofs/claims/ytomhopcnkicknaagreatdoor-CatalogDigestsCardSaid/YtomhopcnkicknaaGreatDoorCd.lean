/- catalog.direct: what an expression directly uses goes into two maps. -/
import Derived.Test.YtomhopcnkicknaaGreatDoorCc
set_option linter.unusedVariables false
set_option linter.unusedSimpArgs false
namespace Go.Proofs.YtomhopcnkicknaaGreatDoor
open _root_.Go.Proofs.Tryz
open Go.RowKit Go.Proofs Go.Tb
open Go.Sx (AV Mem RL R M0 Glob)
abbrev bN(w:World)(b:Nat)(L:List ae):Prop:=set w prog 9 4 b L
theorem pC{ops:Array Oper}{rest:List Oper}{o:Oper}{a:Act}{w:World}{Q:Exit→Act→World→Prop}(tv:o.guard=none)(ty:TypeId)(x:Operand)(ho:o.op= .load ty x)
  (b off:Nat) (hx:a.eval x= .pointer (some ⟨b,off,none⟩)) (C:Array Value) (hc:∀ j (hj:j<C.toList.length),w.cell? ⟨b,off+j,none⟩=some C.toList[j]) (ht:Sx.en prog ty=some (true,C.toList.length))
  (h:wpList prog ops Q rest (a.put o.dst (.agg C)) w):wpList prog ops Q (o::rest) a w:=
 wpList_plain tv fun _ hK=>by
  have hr:(Instr.loadAt ty (.pointer (some ⟨b,off,none⟩))).run prog w= .ok (.agg C.toList.toArray) w:=by
   obtain⟨h1,h2⟩:=Sx.xO ht w
   simp only[Instr.loadAt,Instr.sureAddr,loadVar,Sem.run_bind,Sem.run_pure,Result.andThen_ok,h1]
   simp only[YV,Sem.run_bind,h2,Result.andThen_ok,Sx.Dj b off C.toList.length C.toList rfl hc,Sem.run_pure]
  unfold Oper.wp execOp
  simp only[ho,hx,hr,Sem.run_bind,Result.andThen_ok,Sem.run_pure,Array.toArray_toList]
  exact hK _ _ h
theorem EG{M:Mem}{nn:Bool}{ag:Nat}{rows:List (List AV)}{v:Value}(h:R M (.sl nn ag rows) v):
  ∃ a cap,v= .slice a rows.length cap∧∀ i (hi:i<rows.length),∃ bb off,a=some ⟨bb,off,none⟩∧∃ cs:List Value,RL M rows[i] cs∧cs.length=ag∧∀ j (hj:j<cs.length),M bb (off+i * ag+j)=some cs[j]:=by
 cases h with
 |nil _ _ a _=>exact⟨a,0,rfl,fun i hi=>absurd hi (by simp)⟩
 |sl _ _ _ b off cap cs bC hM hR hc hm=>
  refine⟨_,cap,rfl,fun i hi=>⟨b,off,rfl,(List.range ag).map fun j=>cs (i * ag+j),⟨by rw[bC i hi];simp,fun j h1 h2=> ?_⟩,by simp,fun j hj=> ?_⟩⟩
  ·simp only[ZF,Yg];exact hR i hi j h1
  ·simp only[ZF,Yg]
   have dK:j<ag:=by simpa using hj
   rw[XJ]
   refine hM _ ?_
   have:=Yr ag (show i+1≤rows.length from hi)
   rw[YT,Nat.one_mul]at this
   omega
theorem QA{M:Mem}{nn:Bool}{ag:Nat}{rows:List (List AV)}{v:Value}(h:R M (.sl nn ag rows) v):rows.length≤maxLen:=by
 rcases h.rM with⟨a,_,h,rfl⟩|⟨b,off,cap,cs,rfl,hr,h4,h5⟩
 ·subst_vars;simp
 ·omega
theorem WU{M:Mem}{nn:Bool}{ag:Nat}{rows:List (List AV)}{v:Value}(h:R M (.sl nn ag rows) v):∃ a n c,v= .slice a n c:=by
 obtain⟨a,c,h,_⟩:=EG h;exact⟨a,_,c,h⟩
theorem abf{M:Mem}{x:Ex}{cs:Array Value}(h:RL M x.cells cs.toList):∃ aU nU cU aA cA v4 v5 v6 v8 v9 v10,cs= #[.int .i64 x.kind,.string x.op,.string x.name,.string x.table,v4,v5,v6,.slice aU nU cU,v8,v9,v10,.slice aA x.args.length cA]∧x.args.length≤maxLen∧
  ∀ i (hi:i<x.args.length),∃ bb off,aA=some ⟨bb,off,none⟩∧∃ C:Array Value,RL M (x.args.getD i default).cells C.toList∧C.toList.length=12∧∀ j (hj:j<C.toList.length),M bb (off+i * 12+j)=some C.toList[j]:=by
 rw[congrFun Ex.lj x]at h
 obtain⟨v0,l0,e0,h0,h⟩:=h.bL
 obtain⟨v1,l1,rfl,h1,h⟩:=h.bL
 obtain⟨v2,l2,rfl,h2,h⟩:=h.bL
 obtain⟨v3,l3,rfl,h3,h⟩:=h.bL
 obtain⟨v4,l4,rfl,h4,h⟩:=h.bL
 obtain⟨v5,l5,rfl,h5,h⟩:=h.bL
 obtain⟨v6,l6,rfl,h6,h⟩:=h.bL
 obtain⟨v7,l7,rfl,h7,h⟩:=h.bL
 obtain⟨v8,l8,rfl,h8,h⟩:=h.bL
 obtain⟨v9,l9,rfl,h9,h⟩:=h.bL
 obtain⟨v10,l10,rfl,Fz,h⟩:=h.bL
 obtain⟨v11,l11,rfl,Mi,h⟩:=h.bL
 obtain rfl:=h.nR
 obtain⟨aU,nU,cU,rfl⟩:=WU h7
 have hlen:=QA Mi
 rw[Z7]at hlen
 obtain⟨aA,cA,rfl,hA⟩:=EG Mi
 refine⟨aU,nU,cU,aA,cA,v4,v5,v6,v8,v9,v10,?_,hlen,fun i hi=> ?_⟩
 ·rw[h0.aC,h1.aC,h2.aC,h3.aC]at e0
  rw[← Array.toList_inj,e0,Z7]
 ·obtain⟨bb,off,e,cs',g1,g2,g3⟩:=hA i (by rw[Z7];exact hi)
  refine⟨bb,off,e,cs'.toArray,?_,by simpa using g2,fun j hj=>by simpa using g3 j (by simpa using hj)⟩
  rw[ZF]at g1
  rw[show x.args.getD i default=x.args[i] by simp[ZY,hi]]
  simpa using g1
theorem BF:∀ (l l':List Ex),Ex.cM (l++l')=Ex.cM l++Ex.cM l'
 |[],l'=>by simp[Ex.cM]
 |x::l,l'=>by rw[Ze,Ex.cM,BF l l',Ex.cM,ZB]
theorem DA:∀ (l l':List Ex),Ex.bG (l++l')=Ex.bG l++Ex.bG l'
 |[],l'=>by simp[Ex.bG]
 |x::l,l'=>by rw[Ze,Ex.bG,DA l l',Ex.bG,ZB]
theorem KE(l:List Ex){k:Nat}(h:k<l.length):l.take (k+1)=l.take k++[l.getD k default]:=by
 rw[ZV h,ZY,ZX h];rfl
theorem Fa(l:List Ex){k:Nat}(h:k<l.length):Ex.cM (l.take (k+1))=Ex.cM (l.take k)++(l.getD k default).aR:=by
 rw[KE l h,BF];simp[Ex.cM]
theorem IQ(l:List Ex){k:Nat}(h:k<l.length):Ex.bG (l.take (k+1))=Ex.bG (l.take k)++(l.getD k default).bO:=by
 rw[KE l h,DA];simp[Ex.bG]
theorem abD(l:List Ex){k:Nat}(h:k<l.length){s:ae}(hs:s∈(l.getD k default).aR):s∈Ex.cM l:=by
 have e:=BF (l.take (k+1)) (l.drop (k+1))
 rw[YI,Fa l h]at e
 rw[e];exact ZK _ (Zt _ hs)
theorem aMc(l:List Ex){k:Nat}(h:k<l.length){s:ae}(hs:s∈(l.getD k default).bO):s∈Ex.bG l:=by
 have e:=DA (l.take (k+1)) (l.drop (k+1))
 rw[YI,IQ l h]at e
 rw[e];exact ZK _ (Zt _ hs)
theorem abC(l:List Ex)(k:Nat):(Ex.cM (l.take k)).length≤(Ex.cM l).length:=by
 have e:=BF (l.take k) (l.drop k)
 rw[YI]at e
 rw[e,Z9];omega
theorem aMb(l:List Ex)(k:Nat):(Ex.bG (l.take k)).length≤(Ex.bG l).length:=by
 have e:=DA (l.take k) (l.drop k)
 rw[YI]at e
 rw[e,Z9];omega
theorem agN{w:World}{bF bT:Nat}{LF LT:List ae}(hF:bN w bF LF)(hT:bN w bT LT):xG w [bF,bT]:=O5 hF.isMap (O5 hT.isMap (O6 w))
theorem Od(w:World)(o:Obj)(C:Array Value)(l:List Nat):aZ w ((w.alloc o).setRow w.heap.size C) l:=by
 refine⟨rfl,rfl,rfl,?_,fun k hk _=> ?_⟩
 ·show w.heap.size≤((w.alloc o).setRow w.heap.size C).heap.size
  simp[World.setRow]
 ·rw[setRow_other _ _ _ _ (by omega)];exact heap_alloc_old _ _ hk
theorem KQ{w w1:World}{cs:Array Value}{t:TypeId}{l:List Nat}(hk:aZ (w.alloc (.cells cs t)) w1 l)(hn:w.heap.size∉l){j:Nat}{v:Value}(h:cs[j]? =some v):w1.cell? ⟨w.heap.size,j,none⟩=some v:=by
 have h1:w1.heap[w.heap.size]? =some (.cells cs t (0,0)):=(hk.block w.heap.size (by simp) hn).trans (heap_alloc_new _ _)
 simpa[World.cell?,h1]using h
def Ea(x:Ex):Prop:=
 ∀ (M:Mem) (w:World) (_:Sx.Inv prog M ⟨w,M⟩ [] w) (cs:Array Value) (_:RL M x.cells cs.toList) (bF bT:Nat) (LF LT:List ae) (_:bN w bF LF) (_:bN w bT LT) (_:bF≠bT),
  LF.length+x.aR.length≤1099511627776→LT.length+x.bO.length≤1099511627776→(∀ s∈x.aR,s.size≤maxLen)→(∀ s∈x.bO,s.size≤maxLen)→
  Calls prog 52 #[.agg cs,.map (some bF),.map (some bT)] w fun e w'=>(∃ v,e= .returned v)∧bN w' bF (cR LF x.aR)∧bN w' bT (cR LT x.bO)∧aZ w w' [bF,bT]
theorem abE(x:Ex):x.aR=(if x.kind=3∨x.kind=4 then[x.name]else[])++Ex.cM x.args:=by cases x;rw[Ex.aR];rfl
theorem aMd(x:Ex):x.bO=(if x.kind=5 then[x.table]else[])++Ex.bG x.args:=by cases x;rw[Ex.bO];rfl
set_option maxHeartbeats 4000000 in
set_option maxRecDepth 1000000 in
theorem aaT(x:Ex)(ih:∀ k,k<x.args.length→Ea (x.args.getD k default)):Ea x:=by
 intro M w hI cs hR bF bT LF LT hF hT bB Gj yP hs ht
 obtain⟨aU,nU,cU,aA,cA,v4,v5,v6,v8,v9,v10,rfl,hlen,hA⟩:=abf hR
 unfold maxLen at hlen
 have FM:=agN hF hT
 have Cg:(1099511627776:Nat)<maxLen:=by decide
 have F9:=abE x
 have GV:=aMd x
 rw[F9]at Gj hs
 rw[GV]at yP ht
 rw[F9,GV]
 clear F9 GV hR
 obtain⟨a,ha⟩:∃ a:List ae,a=if x.kind=3∨x.kind=4 then[x.name]else[]:=⟨_,rfl⟩
 obtain⟨b,hb⟩:∃ b:List ae,b=if x.kind=5 then[x.table]else[]:=⟨_,rfl⟩
 rw[← ha]at Gj hs ⊢
 rw[← hb]at yP ht ⊢
 rw[Z9]at Gj yP
 have mX:bN (w.alloc (.cells #[.int .i64 x.kind,.string x.op,.string x.name,.string x.table,v4,v5,v6,.slice aU nU cU,v8,v9,v10,.slice aA x.args.length cA] 42)) bF LF:=hF.alloc _
 have mZ:bN (w.alloc (.cells #[.int .i64 x.kind,.string x.op,.string x.name,.string x.table,v4,v5,v6,.slice aU nU cU,v8,v9,v10,.slice aA x.args.length cA] 42)) bT LT:=hT.alloc _
 have vv:aZ w (w.alloc (.cells #[.int .i64 x.kind,.string x.op,.string x.name,.string x.table,v4,v5,v6,.slice aU nU cU,v8,v9,v10,.slice aA x.args.length cA] 42)) [bF,bT]:=(aZ.refl w _).alloc _
 go_enter func52,ntmps52
 have FZ:x.kind=3∨x.kind=4∨x.kind=5∨(x.kind≠3∧x.kind≠4∧x.kind≠5):=by omega
 have hAdd:=fun(hk:x.kind=3∨x.kind=4)=>(show a=[x.name]∧b=[]from⟨by rw[ha,Z3 hk],by rw[hb,Z6 (by omega)]⟩)
 have yg:=fun(hk:x.kind=5)=>(show a=[]∧b=[x.table]from⟨by rw[ha,Z6 (by omega)],by rw[hb,Z3 hk]⟩)
 have yf:=fun(hk:x.kind≠3∧x.kind≠4∧x.kind≠5)=>(show a=[]∧b=[]from⟨by rw[ha,Z6 (by omega)],by rw[hb,Z6 (by omega)]⟩)
 clear ha hb
 have FU:=hF.lt
 have hbT:=hT.lt
 obtain⟨Rel,iR⟩:∃ Rel:Nat→World→Prop,∀ k wr,Rel k wr↔(k≤x.args.length∧bN wr bF (cR LF (a++Ex.cM (x.args.take k)))∧bN wr bT (cR LT (b++Ex.bG (x.args.take k)))∧aZ w wr [bF,bT]):=⟨_,fun _ _=>Iff.rfl⟩
 have oy:∀ wr,bN wr bF (cR LF a)→bN wr bT (cR LT b)→aZ w wr [bF,bT]→Rel 0 wr:=fun wr h1 h2 h3=>(iR 0 wr).2 ⟨Z1 _,by simpa[Ex.cM]using h1,by simpa[Ex.bG]using h2,h3⟩
 have FH:∀ wr,Rel x.args.length wr→bN wr bF (cR LF (a++Ex.cM x.args))∧bN wr bT (cR LT (b++Ex.bG x.args))∧aZ w wr [bF,bT]:=fun wr h=>by
  obtain⟨_,h1,h2,h3⟩:=(iR _ _).1 h
  rw[Yu]at h1 h2
  exact⟨h1,h2,h3⟩
 have Ml:∀ k,k<x.args.length→∀ wr,Rel k wr→∀ (W:World) (C:Array Value),RL M (x.args.getD k default).cells C.toList→aZ wr W []→
   Calls prog 52 #[.agg C,.map (some bF),.map (some bT)] W fun e w'=>(∃ v,e= .returned v)∧Rel (k+1) w':=fun k hk wr hr W C hC hW=>by
  obtain⟨_,h1,h2,h3⟩:=(iR _ _).1 hr
  have Mt:aZ w W [bF,bT]:=h3.trans hW (by simp)
  have hF2:=fE h1 hW (by simp)
  have hT2:=fE h2 hW (by simp)
  have l1:=zF (a++Ex.cM (x.args.take k)) LF
  have l2:=zF (b++Ex.bG (x.args.take k)) LT
  have m1:=abC x.args (k+1)
  have m2:=aMb x.args (k+1)
  rw[Fa _ hk]at m1
  rw[IQ _ hk]at m2
  rw[Z9]at l1 l2 m1 m2
  refine(ih k hk M W (Hb hI Mt FM) C hC bF bT _ _ hF2 hT2 bB (by omega) (by omega) (fun s h=>hs s (Zt _ (abD _ hk h))) (fun s h=>ht s (Zt _ (aMc _ hk h)))).mono fun e w' ⟨g1,g2,g3,g4⟩=>⟨g1,?_⟩
  refine(iR _ _).2 ⟨hk,?_,?_,Mt.trans g4 (by simp)⟩
  ·rw[Fa _ hk,← ZB,NZ];exact g2
  ·rw[IQ _ hk,← ZB,NZ];exact g3
 have FE:∀ k,k<x.args.length→∀ wr,Rel k wr→∃ bb off,aA=some ⟨bb,off,none⟩∧∃ C:Array Value,RL M (x.args.getD k default).cells C.toList∧C.toList.length=12∧∀ j (hj:j<C.toList.length),wr.cell? ⟨bb,off+k * 12+j,none⟩=some C.toList[j]:=fun k hk wr hr=>by
  obtain⟨_,h1,h2,h3⟩:=(iR _ _).1 hr
  obtain⟨bb,off,e,C,g1,g2,g3⟩:=hA k hk
  exact⟨bb,off,e,C,g1,g2,fun j hj=>(Hb hI h3 FM).cQ _ _ _ (g3 j hj)⟩
 clear iR FM hA ih hI
 rcases FZ with hk|hk|hk|hk
 obtain⟨rfl,rfl⟩:=hAdd (.inl hk)
 rw[hk]at mX mZ vv ⊢
 clear hk hAdd yg yf
 rotate_left
 obtain⟨rfl,rfl⟩:=hAdd (.inr hk)
 rw[hk]at mX mZ vv ⊢
 clear hk hAdd yg yf
 rotate_left
 obtain⟨rfl,rfl⟩:=yg hk
 rw[hk]at mX mZ vv ⊢
 clear hk hAdd yg yf
 rotate_left
 obtain⟨rfl,rfl⟩:=yf hk
 have Gg:(x.kind == 3)=false:=by simpa using hk.1
 have hk4:(x.kind == 4)=false:=by simpa using hk.2.1
 have Gh:(x.kind == 5)=false:=by simpa using hk.2.2
 clear hk hAdd yg yf
 rotate_left
 go_wp2_with (first|(at_mapUpdate;refine Az _ rfl _ _ _ 86 rfl underlying9 underlying4 underlying86 bF LF rfl mX (by omega) x.name rfl (hs _ (by simp)) rfl ?_;intro w1 BS eM;have BQ:=vv.trans (aZ.j7 eM) (by simp);have vx:=fE mZ (aZ.j7 eM) (by simp;omega);have WR:w1.cell? ⟨w.heap.size,11,none⟩=some (.slice aA x.args.length cA):=KQ (aZ.j7 eM) (by simp;omega) rfl;clear eM)|(at_mapUpdate;refine Az _ rfl _ _ _ 86 rfl underlying9 underlying4 underlying86 bT LT rfl mZ (by omega) x.table rfl (ht _ (by simp)) rfl ?_;intro w1 BS eM;have BQ:=vv.trans (aZ.j7 eM) (by simp);have vx:=fE mX (aZ.j7 eM) (by simp;omega);have WR:w1.cell? ⟨w.heap.size,11,none⟩=some (.slice aA x.args.length cA):=KQ (aZ.j7 eM) (by simp;omega) rfl;clear eM)|fail)
 all_goals go_loopw [24] (fun i wr=>∃ k:Nat,i= .int .i64 k∧k≤x.args.length∧Rel k wr) (fun i _=>x.args.length-(intOf i).toNat)
 case atStart=>
  refine⟨0,rfl,Z1 _,?_⟩
  first|exact oy _ BS vx BQ|fail
 case atStart=>
  refine⟨0,rfl,Z1 _,?_⟩
  first|exact oy _ BS vx BQ|fail
 case atStart=>
  refine⟨0,rfl,Z1 _,?_⟩
  first|exact oy _ vx BS BQ|fail
 case atStart=>
  refine⟨0,rfl,Z1 _,?_⟩
  exact oy _ mX mZ vv
 all_goals
  obtain⟨k,rfl,cN,hr⟩:=hrel
  by_cases ax:k<x.args.length
  ·obtain⟨bb,off,rfl,C,hC,hl,hcell⟩:=FE k ax _ hr
   have te:Sx.en prog 42=some (true,C.toList.length):=by rw[hl];kernel_rfl
   have Mj:C.size=12:=by rw[← hl,Zi]
   have NC:(prog.info? 42).map (·.size)=some C.size:=by rw[Mj];kernel_rfl
   have oK:C.all (·.oneCell')=true:=by rw[← Array.all_toList];exact hC.uR (by rw[congrFun Ex.lj _];rfl)
   clear oy FH FE
   go_wp2_with (first
    |(show wpList _ _ _ (⟨some 27,_,_,_,_,_⟩::_) _ _;refine pC rfl 42 (.tmp 26) rfl bb (off+k * 12) rfl C hcell te ?_)
    |(show wpList _ _ _ (⟨none,.store _ _ _,_,_,_,_⟩::_) _ _;refine wpList_store_row rfl 42 (.tmp 7) (.tmp 27) rfl wr.heap.size C rfl rfl 42 _ (heap_alloc_new _ _) NC Mj.symm oK ?_)
    |(show wpList _ _ _ (⟨some 28,_,_,_,_,_⟩::_) _ _;refine wpList_load_row rfl 42 (.tmp 7) rfl wr.heap.size rfl 42 C (0,0) _ (setRow_heap _ _ _ _ _ _ (heap_alloc_new _ _)) underlying42 rfl NC ?_)
    |(go_at_call 52;refine(Ml k ax _ hr _ C hC (Od _ _ _ _)).mono ?_))
   rintro e W1 ⟨⟨v,rfl⟩,yX⟩
   go_wp2
   go_roundw
   case rel=>exact⟨k+1,by go_num,ax,yX⟩
   case measure=>simp[intOf];omega
  ·obtain rfl:k=x.args.length:=by omega
   have hE:=FH _ hr
   clear oy FH FE Ml
   go_wp2
   go_end0
   exact⟨⟨_,rfl⟩,hE⟩
theorem Ex.Ah(x:Ex){k:Nat}(hk:k<x.args.length):(x.args.getD k default).size<x.size:=by
 have h1:=Ex.Qv hk
 have h2:=Ex.Qw x.args (k+1)
 cases x;simp only[Ex.size,Ex.args]at *;omega
theorem Bx:∀ (n:Nat) (x:Ex),x.size≤n→Ea x
 |0,x,h=>by cases x;simp[Ex.size]at h
 |n+1,x,h=>aaT x fun k hk=>Bx n _ (by
  have:=Ex.Ah x hk;omega)
end Go.Proofs.YtomhopcnkicknaaGreatDoor
