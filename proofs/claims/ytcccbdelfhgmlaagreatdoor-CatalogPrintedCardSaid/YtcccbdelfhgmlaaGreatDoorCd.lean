/- catalog.direct: what an expression directly uses goes into two maps. -/
import Derived.Test.YtcccbdelfhgmlaaGreatDoorCc
set_option linter.unusedVariables false
set_option linter.unusedSimpArgs false
namespace Go.Proofs.YtcccbdelfhgmlaaGreatDoor
open Go.RowKit Go.Proofs Go.Tb
open Go.Sx (AV Mem RL R M0 Glob)
abbrev bV(w:World)(b:Nat)(L:List ae):Prop:=set w Tryz.prog 9 4 b L
theorem qI{ops:Array Oper}{rest:List Oper}{o:Oper}{a:Act}{w:World}{Q:Exit→Act→World→Prop}(s9:o.guard=none)(ty:TypeId)(x:Operand)(ho:o.op= .load ty x)
  (b off:Nat) (hx:a.eval x= .pointer (some ⟨b,off,none⟩)) (C:Array Value) (hc:∀ j (hj:j<C.toList.length),w.cell? ⟨b,off+j,none⟩=some C.toList[j]) (ht:Sx.eV Tryz.prog ty=some (true,C.toList.length))
  (h:wpList Tryz.prog ops Q rest (a.put o.dst (.agg C)) w):wpList Tryz.prog ops Q (o::rest) a w:=
 wpList_plain s9 fun _ hK=>by
  have hr:(Instr.loadAt ty (.pointer (some ⟨b,off,none⟩))).run Tryz.prog w= .ok (.agg C.toList.toArray) w:=by
   obtain⟨h1,h2⟩:=Sx.Dd ht w
   simp only[Instr.loadAt,Instr.sureAddr,loadVar,Sem.run_bind,Sem.run_pure,Result.andThen_ok,h1]
   simp only[Y4,Sem.run_bind,h2,Result.andThen_ok,Sx.KO b off C.toList.length C.toList rfl hc,Sem.run_pure]
  unfold Oper.wp execOp
  simp only[ho,hx,hr,Sem.run_bind,Result.andThen_ok,Sem.run_pure,Array.toArray_toList]
  exact hK _ _ h
theorem GX{M:Mem}{nn:Bool}{af:Nat}{rows:List (List AV)}{v:Value}(h:R M (.sl nn af rows) v):
  ∃ a cap,v= .slice a rows.length cap∧∀ i (hi:i<rows.length),∃ bb off,a=some ⟨bb,off,none⟩∧∃ cs:List Value,RL M rows[i] cs∧cs.length=af∧∀ j (hj:j<cs.length),M bb (off+i * af+j)=some cs[j]:=by
 cases h with
 |nil _ _ a _=>exact⟨a,0,rfl,fun i hi=>absurd hi (by simp)⟩
 |sl _ _ _ b off cap cs aQ hM hR hc hm=>
  refine⟨_,cap,rfl,fun i hi=>⟨b,off,rfl,(List.range af).map fun j=>cs (i * af+j),⟨by rw[aQ i hi];simp,fun j h1 h2=> ?_⟩,by simp,fun j hj=> ?_⟩⟩
  ·simp only[Zm,X5];exact hR i hi j h1
  ·simp only[Zm,X5]
   have eo:j<af:=by simpa using hj
   rw[XN]
   refine hM _ ?_
   have:=X1 af (show i+1≤rows.length from hi)
   rw[YM,Nat.one_mul]at this
   omega
theorem Ut{M:Mem}{nn:Bool}{af:Nat}{rows:List (List AV)}{v:Value}(h:R M (.sl nn af rows) v):rows.length≤maxLen:=by
 rcases h.qg with⟨a,_,h,rfl⟩|⟨b,off,cap,cs,rfl,hr,h4,h5⟩
 ·subst_vars;simp
 ·omega
theorem abC{M:Mem}{nn:Bool}{af:Nat}{rows:List (List AV)}{v:Value}(h:R M (.sl nn af rows) v):∃ a n c,v= .slice a n c:=by
 obtain⟨a,c,h,_⟩:=GX h;exact⟨a,_,c,h⟩
theorem adL{M:Mem}{x:Ex}{cs:Array Value}(h:RL M x.cells cs.toList):∃ aU nU cU aA cA v4 v5 v6 v8 v9 v10,cs= #[.int .i64 x.kind,.string x.op,.string x.name,.string x.table,v4,v5,v6,.slice aU nU cU,v8,v9,v10,.slice aA x.args.length cA]∧x.args.length≤maxLen∧
  ∀ i (hi:i<x.args.length),∃ bb off,aA=some ⟨bb,off,none⟩∧∃ C:Array Value,RL M (x.args.getD i default).cells C.toList∧C.toList.length=12∧∀ j (hj:j<C.toList.length),M bb (off+i * 12+j)=some C.toList[j]:=by
 rw[congrFun Ex.j1 x]at h
 obtain⟨v0,l0,e0,h0,h⟩:=h.bS
 obtain⟨v1,l1,rfl,h1,h⟩:=h.bS
 obtain⟨v2,l2,rfl,h2,h⟩:=h.bS
 obtain⟨v3,l3,rfl,h3,h⟩:=h.bS
 obtain⟨v4,l4,rfl,h4,h⟩:=h.bS
 obtain⟨v5,l5,rfl,h5,h⟩:=h.bS
 obtain⟨v6,l6,rfl,h6,h⟩:=h.bS
 obtain⟨v7,l7,rfl,h7,h⟩:=h.bS
 obtain⟨v8,l8,rfl,h8,h⟩:=h.bS
 obtain⟨v9,l9,rfl,h9,h⟩:=h.bS
 obtain⟨v10,l10,rfl,Ib,h⟩:=h.bS
 obtain⟨v11,l11,rfl,PQ,h⟩:=h.bS
 obtain rfl:=h.rR
 obtain⟨aU,nU,cU,rfl⟩:=abC h7
 have hlen:=Ut PQ
 rw[Z3]at hlen
 obtain⟨aA,cA,rfl,hA⟩:=GX PQ
 refine⟨aU,nU,cU,aA,cA,v4,v5,v6,v8,v9,v10,?_,hlen,fun i hi=> ?_⟩
 ·rw[h0.ay,h1.ay,h2.ay,h3.ay]at e0
  rw[← Array.toList_inj,e0,Z3]
 ·obtain⟨bb,off,e,cs',g1,g2,g3⟩:=hA i (by rw[Z3];exact hi)
  refine⟨bb,off,e,cs'.toArray,?_,by simpa using g2,fun j hj=>by simpa using g3 j (by simpa using hj)⟩
  rw[Zm]at g1
  rw[show x.args.getD i default=x.args[i] by simp[ZY,hi]]
  simpa using g1
theorem DB:∀ (l l':List Ex),Ex.eW (l++l')=Ex.eW l++Ex.eW l'
 |[],l'=>by simp[Ex.eW]
 |x::l,l'=>by rw[ZC,Ex.eW,DB l l',Ex.eW,Zz]
theorem FF:∀ (l l':List Ex),Ex.fe (l++l')=Ex.fe l++Ex.fe l'
 |[],l'=>by simp[Ex.fe]
 |x::l,l'=>by rw[ZC,Ex.fe,FF l l',Ex.fe,Zz]
theorem N6(l:List Ex){k:Nat}(h:k<l.length):l.take (k+1)=l.take k++[l.getD k default]:=by
 rw[ZF h,ZY,Z4 h];rfl
theorem Hx(l:List Ex){k:Nat}(h:k<l.length):Ex.eW (l.take (k+1))=Ex.eW (l.take k)++(l.getD k default).aV:=by
 rw[N6 l h,DB];simp[Ex.eW]
theorem K8(l:List Ex){k:Nat}(h:k<l.length):Ex.fe (l.take (k+1))=Ex.fe (l.take k)++(l.getD k default).cy:=by
 rw[N6 l h,FF];simp[Ex.fe]
theorem ad3(l:List Ex){k:Nat}(h:k<l.length){s:ae}(hs:s∈(l.getD k default).aV):s∈Ex.eW l:=by
 have e:=DB (l.take (k+1)) (l.drop (k+1))
 rw[YI,Hx l h]at e
 rw[e];exact ZN _ (Zt _ hs)
theorem awY(l:List Ex){k:Nat}(h:k<l.length){s:ae}(hs:s∈(l.getD k default).cy):s∈Ex.fe l:=by
 have e:=FF (l.take (k+1)) (l.drop (k+1))
 rw[YI,K8 l h]at e
 rw[e];exact ZN _ (Zt _ hs)
theorem ad2(l:List Ex)(k:Nat):(Ex.eW (l.take k)).length≤(Ex.eW l).length:=by
 have e:=DB (l.take k) (l.drop k)
 rw[YI]at e
 rw[e,Z5];omega
theorem awX(l:List Ex)(k:Nat):(Ex.fe (l.take k)).length≤(Ex.fe l).length:=by
 have e:=FF (l.take k) (l.drop k)
 rw[YI]at e
 rw[e,Z5];omega
theorem agJ{w:World}{bF bT:Nat}{LF LT:List ae}(hF:bV w bF LF)(hT:bV w bT LT):Ac w [bF,bT]:=SE hF.isMap (SE hT.isMap (SF w))
theorem R1(w:World)(o:Obj)(C:Array Value)(l:List Nat):aW w ((w.alloc o).setRow w.heap.size C) l:=by
 refine⟨rfl,rfl,rfl,?_,fun k hk _=> ?_⟩
 ·show w.heap.size≤((w.alloc o).setRow w.heap.size C).heap.size
  simp[World.setRow]
 ·rw[setRow_other _ _ _ _ (by omega)];exact heap_alloc_old _ _ hk
theorem Oa{w w1:World}{cs:Array Value}{t:TypeId}{l:List Nat}(hk:aW (w.alloc (.cells cs t)) w1 l)(hn:w.heap.size∉l){j:Nat}{v:Value}(h:cs[j]? =some v):w1.cell? ⟨w.heap.size,j,none⟩=some v:=by
 have h1:w1.heap[w.heap.size]? =some (.cells cs t (0,0)):=(hk.block w.heap.size (by simp) hn).trans (heap_alloc_new _ _)
 simpa[World.cell?,h1]using h
def Gh(x:Ex):Prop:=
 ∀ (M:Mem) (w:World) (_:Sx.Inv Tryz.prog M ⟨w,M⟩ [] w) (cs:Array Value) (_:RL M x.cells cs.toList) (bF bT:Nat) (LF LT:List ae) (_:bV w bF LF) (_:bV w bT LT) (_:bF≠bT),
  LF.length+x.aV.length≤1099511627776→LT.length+x.cy.length≤1099511627776→(∀ s∈x.aV,s.size≤maxLen)→(∀ s∈x.cy,s.size≤maxLen)→
  Calls Tryz.prog 21 #[.agg cs,.map (some bF),.map (some bT)] w fun e w'=>(∃ v,e= .returned v)∧bV w' bF (dm LF x.aV)∧bV w' bT (dm LT x.cy)∧aW w w' [bF,bT]
theorem ad4(x:Ex):x.aV=(if x.kind=3∨x.kind=4 then[x.name]else[])++Ex.eW x.args:=by cases x;rw[Ex.aV];rfl
theorem awZ(x:Ex):x.cy=(if x.kind=5 then[x.table]else[])++Ex.fe x.args:=by cases x;rw[Ex.cy];rfl
set_option maxHeartbeats 4000000 in
set_option maxRecDepth 1000000 in
theorem acX(x:Ex)(ih:∀ k,k<x.args.length→Gh (x.args.getD k default)):Gh x:=by
 intro M w hI cs hR bF bT LF LT hF hT aJ Jb Bt hs ht
 obtain⟨aU,nU,cU,aA,cA,v4,v5,v6,v8,v9,v10,rfl,hlen,hA⟩:=adL hR
 unfold maxLen at hlen
 have Is:=agJ hF hT
 have yb:(1099511627776:Nat)<maxLen:=by decide
 have IZ:=ad4 x
 have JA:=awZ x
 rw[IZ]at Jb hs
 rw[JA]at Bt ht
 rw[IZ,JA]
 clear IZ JA hR
 obtain⟨a,ha⟩:∃ a:List ae,a=if x.kind=3∨x.kind=4 then[x.name]else[]:=⟨_,rfl⟩
 obtain⟨b,hb⟩:∃ b:List ae,b=if x.kind=5 then[x.table]else[]:=⟨_,rfl⟩
 rw[← ha]at Jb hs ⊢
 rw[← hb]at Bt ht ⊢
 rw[Z5]at Jb Bt
 have xI:bV (w.alloc (.cells #[.int .i64 x.kind,.string x.op,.string x.name,.string x.table,v4,v5,v6,.slice aU nU cU,v8,v9,v10,.slice aA x.args.length cA] 33)) bF LF:=hF.alloc _
 have xP:bV (w.alloc (.cells #[.int .i64 x.kind,.string x.op,.string x.name,.string x.table,v4,v5,v6,.slice aU nU cU,v8,v9,v10,.slice aA x.args.length cA] 33)) bT LT:=hT.alloc _
 have xJ:aW w (w.alloc (.cells #[.int .i64 x.kind,.string x.op,.string x.name,.string x.table,v4,v5,v6,.slice aU nU cU,v8,v9,v10,.slice aA x.args.length cA] 33)) [bF,bT]:=(aW.refl w _).alloc _
 go_enter Tryz.func21,Tryz.ntmps21
 have kP:x.kind=3∨x.kind=4∨x.kind=5∨(x.kind≠3∧x.kind≠4∧x.kind≠5):=by omega
 have hAdd:=fun(hk:x.kind=3∨x.kind=4)=>(show a=[x.name]∧b=[]from⟨by rw[ha,Z8 hk],by rw[hb,Z9 (by omega)]⟩)
 have AY:=fun(hk:x.kind=5)=>(show a=[]∧b=[x.table]from⟨by rw[ha,Z9 (by omega)],by rw[hb,Z8 hk]⟩)
 have AX:=fun(hk:x.kind≠3∧x.kind≠4∧x.kind≠5)=>(show a=[]∧b=[]from⟨by rw[ha,Z9 (by omega)],by rw[hb,Z9 (by omega)]⟩)
 clear ha hb
 have IA:=hF.lt
 have hbT:=hT.lt
 obtain⟨Rel,jo⟩:∃ Rel:Nat→World→Prop,∀ k wr,Rel k wr↔(k≤x.args.length∧bV wr bF (dm LF (a++Ex.eW (x.args.take k)))∧bV wr bT (dm LT (b++Ex.fe (x.args.take k)))∧aW w wr [bF,bT]):=⟨_,fun _ _=>Iff.rfl⟩
 have pC:∀ wr,bV wr bF (dm LF a)→bV wr bT (dm LT b)→aW w wr [bF,bT]→Rel 0 wr:=fun wr h1 h2 h3=>(jo 0 wr).2 ⟨ZH _,by simpa[Ex.eW]using h1,by simpa[Ex.fe]using h2,h3⟩
 have Ik:∀ wr,Rel x.args.length wr→bV wr bF (dm LF (a++Ex.eW x.args))∧bV wr bT (dm LT (b++Ex.fe x.args))∧aW w wr [bF,bT]:=fun wr h=>by
  obtain⟨_,h1,h2,h3⟩:=(jo _ _).1 h
  rw[XU]at h1 h2
  exact⟨h1,h2,h3⟩
 have PZ:∀ k,k<x.args.length→∀ wr,Rel k wr→∀ (W:World) (C:Array Value),RL M (x.args.getD k default).cells C.toList→aW wr W []→
   Calls Tryz.prog 21 #[.agg C,.map (some bF),.map (some bT)] W fun e w'=>(∃ v,e= .returned v)∧Rel (k+1) w':=fun k hk wr hr W C hC hW=>by
  obtain⟨_,h1,h2,h3⟩:=(jo _ _).1 hr
  have P9:aW w W [bF,bT]:=h3.trans hW (by simp)
  have lL:=fW h1 hW (by simp)
  have j5:=fW h2 hW (by simp)
  have l1:=BR (a++Ex.eW (x.args.take k)) LF
  have l2:=BR (b++Ex.fe (x.args.take k)) LT
  have m1:=ad2 x.args (k+1)
  have m2:=awX x.args (k+1)
  rw[Hx _ hk]at m1
  rw[K8 _ hk]at m2
  rw[Z5]at l1 l2 m1 m2
  refine(ih k hk M W (JO hI P9 Is) C hC bF bT _ _ lL j5 aJ (by omega) (by omega) (fun s h=>hs s (Zt _ (ad3 _ hk h))) (fun s h=>ht s (Zt _ (awY _ hk h)))).mono fun e w' ⟨g1,g2,g3,g4⟩=>⟨g1,?_⟩
  refine(jo _ _).2 ⟨hk,?_,?_,P9.trans g4 (by simp)⟩
  ·rw[Hx _ hk,← Zz,RN];exact g2
  ·rw[K8 _ hk,← Zz,RN];exact g3
 have Ig:∀ k,k<x.args.length→∀ wr,Rel k wr→∃ bb off,aA=some ⟨bb,off,none⟩∧∃ C:Array Value,RL M (x.args.getD k default).cells C.toList∧C.toList.length=12∧∀ j (hj:j<C.toList.length),wr.cell? ⟨bb,off+k * 12+j,none⟩=some C.toList[j]:=fun k hk wr hr=>by
  obtain⟨_,h1,h2,h3⟩:=(jo _ _).1 hr
  obtain⟨bb,off,e,C,g1,g2,g3⟩:=hA k hk
  exact⟨bb,off,e,C,g1,g2,fun j hj=>(JO hI h3 Is).dA _ _ _ (g3 j hj)⟩
 clear jo Is hA ih hI
 rcases kP with hk|hk|hk|hk
 obtain⟨rfl,rfl⟩:=hAdd (.inl hk)
 rw[hk]at xI xP xJ ⊢
 clear hk hAdd AY AX
 rotate_left
 obtain⟨rfl,rfl⟩:=hAdd (.inr hk)
 rw[hk]at xI xP xJ ⊢
 clear hk hAdd AY AX
 rotate_left
 obtain⟨rfl,rfl⟩:=AY hk
 rw[hk]at xI xP xJ ⊢
 clear hk hAdd AY AX
 rotate_left
 obtain⟨rfl,rfl⟩:=AX hk
 have Bp:(x.kind == 3)=false:=by simpa using hk.1
 have hk4:(x.kind == 4)=false:=by simpa using hk.2.1
 have I8:(x.kind == 5)=false:=by simpa using hk.2.2
 clear hk hAdd AY AX
 rotate_left
 go_wp2_with (first|(at_mapUpdate;refine CT _ rfl _ _ _ 69 rfl Tryz.underlying9 Tryz.underlying4 Tryz.underlying69 bF LF rfl xI (by omega) x.name rfl (hs _ (by simp)) rfl ?_;intro w1 DU eX;have DP:=xJ.trans (aW.kh eX) (by simp);have xL:=fW xP (aW.kh eX) (by simp;omega);have NI:w1.cell? ⟨w.heap.size,11,none⟩=some (.slice aA x.args.length cA):=Oa (aW.kh eX) (by simp;omega) rfl;clear eX)|(at_mapUpdate;refine CT _ rfl _ _ _ 69 rfl Tryz.underlying9 Tryz.underlying4 Tryz.underlying69 bT LT rfl xP (by omega) x.table rfl (ht _ (by simp)) rfl ?_;intro w1 DU eX;have DP:=xJ.trans (aW.kh eX) (by simp);have xL:=fW xI (aW.kh eX) (by simp;omega);have NI:w1.cell? ⟨w.heap.size,11,none⟩=some (.slice aA x.args.length cA):=Oa (aW.kh eX) (by simp;omega) rfl;clear eX)|fail)
 all_goals go_loopw [24] (fun i wr=>∃ k:Nat,i= .int .i64 k∧k≤x.args.length∧Rel k wr) (fun i _=>x.args.length-(intOf i).toNat)
 case atStart=>
  refine⟨0,rfl,ZH _,?_⟩
  first|exact pC _ DU xL DP|fail
 case atStart=>
  refine⟨0,rfl,ZH _,?_⟩
  first|exact pC _ DU xL DP|fail
 case atStart=>
  refine⟨0,rfl,ZH _,?_⟩
  first|exact pC _ xL DU DP|fail
 case atStart=>
  refine⟨0,rfl,ZH _,?_⟩
  exact pC _ xI xP xJ
 all_goals
  obtain⟨k,rfl,cC,hr⟩:=hrel
  by_cases ax:k<x.args.length
  ·obtain⟨bb,off,rfl,C,hC,hl,hcell⟩:=Ig k ax _ hr
   have DW:Sx.eV Tryz.prog 33=some (true,C.toList.length):=by rw[hl];kernel_rfl
   have PS:C.size=12:=by rw[← hl,Zb]
   have Rl:(Tryz.prog.info? 33).map (·.size)=some C.size:=by rw[PS];kernel_rfl
   have tn:C.all (·.oneCell')=true:=by rw[← Array.all_toList];exact hC.Av (by rw[congrFun Ex.j1 _];rfl)
   clear pC Ik Ig
   go_wp2_with (first
    |(show wpList _ _ _ (⟨some 27,_,_,_,_,_⟩::_) _ _;refine qI rfl 33 (.tmp 26) rfl bb (off+k * 12) rfl C hcell DW ?_)
    |(show wpList _ _ _ (⟨none,.store _ _ _,_,_,_,_⟩::_) _ _;refine wpList_store_row rfl 33 (.tmp 7) (.tmp 27) rfl wr.heap.size C rfl rfl 33 _ (heap_alloc_new _ _) Rl PS.symm tn ?_)
    |(show wpList _ _ _ (⟨some 28,_,_,_,_,_⟩::_) _ _;refine wpList_load_row rfl 33 (.tmp 7) rfl wr.heap.size rfl 33 C (0,0) _ (setRow_heap _ _ _ _ _ _ (heap_alloc_new _ _)) Tryz.underlying33 rfl Rl ?_)
    |(go_at_call 21;refine(PZ k ax _ hr _ C hC (R1 _ _ _ _)).mono ?_))
   rintro e W1 ⟨⟨v,rfl⟩,bg⟩
   go_wp2
   go_roundw
   case rel=>exact⟨k+1,by go_num,ax,bg⟩
   case measure=>simp[intOf];omega
  ·obtain rfl:k=x.args.length:=by omega
   have hE:=Ik _ hr
   clear pC Ik Ig PZ
   go_wp2
   go_end0
   exact⟨⟨_,rfl⟩,hE⟩
theorem Ex.Ur(x:Ex){k:Nat}(hk:k<x.args.length):(x.args.getD k default).size<x.size:=by
 have h1:=Ex.Ul hk
 have h2:=Ex.Um x.args (k+1)
 cases x;simp only[Ex.size,Ex.args]at *;omega
theorem Dw:∀ (n:Nat) (x:Ex),x.size≤n→Gh x
 |0,x,h=>by cases x;simp[Ex.size]at h
 |n+1,x,h=>acX x fun k hk=>Dw n _ (by
  have:=Ex.Ur x hk;omega)
end Go.Proofs.YtcccbdelfhgmlaaGreatDoor
