/- catalog.direct: what an expression directly uses goes into two maps. -/
import Derived.Test.YtajimcniogfpcaaGreatDoorCc
set_option linter.unusedVariables false
set_option linter.unusedSimpArgs false
namespace Go.Proofs.YtajimcniogfpcaaGreatDoor
open _root_.Go.Proofs.Tryz
open Go.RowKit Go.Proofs Go.Tb
open Go.Sx (AV Mem RL R M0 Glob)
abbrev cy(w:World)(b:Nat)(L:List ae):Prop:=set w prog 9 4 b L
theorem yR{ops:Array Oper}{rest:List Oper}{o:Oper}{a:Act}{w:World}{Q:Exit→Act→World→Prop}(Ce:o.guard=none)(ty:TypeId)(x:Operand)(ho:o.op= .load ty x)
  (b off:Nat) (hx:a.eval x= .pointer (some ⟨b,off,none⟩)) (C:Array Value) (hc:∀ j (hj:j<C.toList.length),w.cell? ⟨b,off+j,none⟩=some C.toList[j]) (ht:Sx.gM prog ty=some (true,C.toList.length))
  (h:wpList prog ops Q rest (a.put o.dst (.agg C)) w):wpList prog ops Q (o::rest) a w:=
 wpList_plain Ce fun _ hK=>by
  have hr:(Instr.loadAt ty (.pointer (some ⟨b,off,none⟩))).run prog w= .ok (.agg C.toList.toArray) w:=by
   obtain⟨h1,h2⟩:=Sx.A9 ht w
   simp only[Instr.loadAt,Instr.sureAddr,loadVar,Sem.run_bind,Sem.run_pure,Result.andThen_ok,h1]
   simp only[Y2,Sem.run_bind,h2,Result.andThen_ok,Sx.Gc b off C.toList.length C.toList rfl hc,Sem.run_pure]
  unfold Oper.wp execOp
  simp only[ho,hx,hr,Sem.run_bind,Result.andThen_ok,Sem.run_pure,Array.toArray_toList]
  exact hK _ _ h
theorem wC{M:Mem}{nn:Bool}{ag:Nat}{rows:List (List AV)}{v:Value}(h:R M (.sl nn ag rows) v):
  ∃ a cap,v= .slice a rows.length cap∧∀ i (hi:i<rows.length),∃ bb off,a=some ⟨bb,off,none⟩∧∃ cs:List Value,RL M rows[i] cs∧cs.length=ag∧∀ j (hj:j<cs.length),M bb (off+i * ag+j)=some cs[j]:=by
 cases h with
 |nil _ _ a _=>exact⟨a,0,rfl,fun i hi=>absurd hi (by simp)⟩
 |sl _ _ _ b off cap cs aY hM hR hc hm=>
  refine⟨_,cap,rfl,fun i hi=>⟨b,off,rfl,(List.range ag).map fun j=>cs (i * ag+j),⟨by rw[aY i hi];simp,fun j h1 h2=> ?_⟩,by simp,fun j hj=> ?_⟩⟩
  ·simp only[Zj,Xb];exact hR i hi j h1
  ·simp only[Zj,Xb]
   have dW:j<ag:=by simpa using hj
   rw[XW]
   refine hM _ ?_
   have:=Y0 ag (show i+1≤rows.length from hi)
   rw[YI,Nat.one_mul]at this
   omega
theorem UY{M:Mem}{nn:Bool}{ag:Nat}{rows:List (List AV)}{v:Value}(h:R M (.sl nn ag rows) v):rows.length≤maxLen:=by
 rcases h.om with⟨a,_,h,rfl⟩|⟨b,off,cap,cs,rfl,hr,h4,h5⟩
 ·subst_vars;simp
 ·omega
theorem Bk{M:Mem}{nn:Bool}{ag:Nat}{rows:List (List AV)}{v:Value}(h:R M (.sl nn ag rows) v):∃ a n c,v= .slice a n c:=by
 obtain⟨a,c,h,_⟩:=wC h;exact⟨a,_,c,h⟩
theorem adn{M:Mem}{x:Ex}{cs:Array Value}(h:RL M x.cells cs.toList):∃ aU nU cU aA cA v4 v5 v6 v8 v9 v10,cs= #[.int .i64 x.kind,.string x.op,.string x.name,.string x.table,v4,v5,v6,.slice aU nU cU,v8,v9,v10,.slice aA x.args.length cA]∧x.args.length≤maxLen∧
  ∀ i (hi:i<x.args.length),∃ bb off,aA=some ⟨bb,off,none⟩∧∃ C:Array Value,RL M (x.args.getD i default).cells C.toList∧C.toList.length=12∧∀ j (hj:j<C.toList.length),M bb (off+i * 12+j)=some C.toList[j]:=by
 rw[congrFun Ex.oP x]at h
 obtain⟨v0,l0,e0,h0,h⟩:=h.bg
 obtain⟨v1,l1,rfl,h1,h⟩:=h.bg
 obtain⟨v2,l2,rfl,h2,h⟩:=h.bg
 obtain⟨v3,l3,rfl,h3,h⟩:=h.bg
 obtain⟨v4,l4,rfl,h4,h⟩:=h.bg
 obtain⟨v5,l5,rfl,h5,h⟩:=h.bg
 obtain⟨v6,l6,rfl,h6,h⟩:=h.bg
 obtain⟨v7,l7,rfl,h7,h⟩:=h.bg
 obtain⟨v8,l8,rfl,h8,h⟩:=h.bg
 obtain⟨v9,l9,rfl,h9,h⟩:=h.bg
 obtain⟨v10,l10,rfl,JB,h⟩:=h.bg
 obtain⟨v11,l11,rfl,ur,h⟩:=h.bg
 obtain rfl:=h.qU
 obtain⟨aU,nU,cU,rfl⟩:=Bk h7
 have hlen:=UY ur
 rw[Z4]at hlen
 obtain⟨aA,cA,rfl,hA⟩:=wC ur
 refine⟨aU,nU,cU,aA,cA,v4,v5,v6,v8,v9,v10,?_,hlen,fun i hi=> ?_⟩
 ·rw[h0.ay,h1.ay,h2.ay,h3.ay]at e0
  rw[← Array.toList_inj,e0,Z4]
 ·obtain⟨bb,off,e,bP,g1,g2,g3⟩:=hA i (by rw[Z4];exact hi)
  refine⟨bb,off,e,bP.toArray,?_,by simpa using g2,fun j hj=>by simpa using g3 j (by simpa using hj)⟩
  rw[Zj]at g1
  rw[show x.args.getD i default=x.args[i] by simp[ZU,hi]]
  simpa using g1
theorem Ej:∀ (l l':List Ex),Ex.dm (l++l')=Ex.dm l++Ex.dm l'
 |[],l'=>by simp[Ex.dm]
 |x::l,l'=>by rw[ZH,Ex.dm,Ej l l',Ex.dm,Zt]
theorem Gv:∀ (l l':List Ex),Ex.bK (l++l')=Ex.bK l++Ex.bK l'
 |[],l'=>by simp[Ex.bK]
 |x::l,l'=>by rw[ZH,Ex.bK,Gv l l',Ex.bK,Zt]
theorem Og(l:List Ex){k:Nat}(h:k<l.length):l.take (k+1)=l.take k++[l.getD k default]:=by
 rw[ZF h,ZU,ZY h];rfl
theorem Jb(l:List Ex){k:Nat}(h:k<l.length):Ex.dm (l.take (k+1))=Ex.dm (l.take k)++(l.getD k default).aW:=by
 rw[Og l h,Ej];simp[Ex.dm]
theorem MJ(l:List Ex){k:Nat}(h:k<l.length):Ex.bK (l.take (k+1))=Ex.bK (l.take k)++(l.getD k default).bU:=by
 rw[Og l h,Gv];simp[Ex.bK]
theorem adG(l:List Ex){k:Nat}(h:k<l.length){s:ae}(hs:s∈(l.getD k default).aW):s∈Ex.dm l:=by
 have e:=Ej (l.take (k+1)) (l.drop (k+1))
 rw[Zh,Jb l h]at e
 rw[e];exact ZI _ (Zp _ hs)
theorem akX(l:List Ex){k:Nat}(h:k<l.length){s:ae}(hs:s∈(l.getD k default).bU):s∈Ex.bK l:=by
 have e:=Gv (l.take (k+1)) (l.drop (k+1))
 rw[Zh,MJ l h]at e
 rw[e];exact ZI _ (Zp _ hs)
theorem adF(l:List Ex)(k:Nat):(Ex.dm (l.take k)).length≤(Ex.dm l).length:=by
 have e:=Ej (l.take k) (l.drop k)
 rw[Zh]at e
 rw[e,Z9];omega
theorem akV(l:List Ex)(k:Nat):(Ex.bK (l.take k)).length≤(Ex.bK l).length:=by
 have e:=Gv (l.take k) (l.drop k)
 rw[Zh]at e
 rw[e,Z9];omega
theorem ahY{w:World}{bF bT:Nat}{LF LT:List ae}(hF:cy w bF LF)(hT:cy w bT LT):A1 w [bF,bT]:=Tg hF.isMap (Tg hT.isMap (Th w))
theorem Ss(w:World)(o:Obj)(C:Array Value)(l:List Nat):bB w ((w.alloc o).setRow w.heap.size C) l:=by
 refine⟨rfl,rfl,rfl,?_,fun k hk _=> ?_⟩
 ·show w.heap.size≤((w.alloc o).setRow w.heap.size C).heap.size
  simp[World.setRow]
 ·rw[setRow_other _ _ _ _ (by omega)];exact heap_alloc_old _ _ hk
theorem On{w w1:World}{cs:Array Value}{t:TypeId}{l:List Nat}(hk:bB (w.alloc (.cells cs t)) w1 l)(hn:w.heap.size∉l){j:Nat}{v:Value}(h:cs[j]? =some v):w1.cell? ⟨w.heap.size,j,none⟩=some v:=by
 have h1:w1.heap[w.heap.size]? =some (.cells cs t (0,0)):=(hk.block w.heap.size (by simp) hn).trans (heap_alloc_new _ _)
 simpa[World.cell?,h1]using h
def Hl(x:Ex):Prop:=
 ∀ (M:Mem) (w:World) (_:Sx.Inv prog M ⟨w,M⟩ [] w) (cs:Array Value) (_:RL M x.cells cs.toList) (bF bT:Nat) (LF LT:List ae) (_:cy w bF LF) (_:cy w bT LT) (_:bF≠bT),
  LF.length+x.aW.length≤1099511627776→LT.length+x.bU.length≤1099511627776→(∀ s∈x.aW,s.size≤maxLen)→(∀ s∈x.bU,s.size≤maxLen)→
  Calls prog 73 #[.agg cs,.map (some bF),.map (some bT)] w fun e w'=>(∃ v,e= .returned v)∧cy w' bF (eJ LF x.aW)∧cy w' bT (eJ LT x.bU)∧bB w w' [bF,bT]
theorem adH(x:Ex):x.aW=(if x.kind=3∨x.kind=4 then[x.name]else[])++Ex.dm x.args:=by cases x;rw[Ex.aW];rfl
theorem akY(x:Ex):x.bU=(if x.kind=5 then[x.table]else[])++Ex.bK x.args:=by cases x;rw[Ex.bU];rfl
set_option maxHeartbeats 4000000 in
set_option maxRecDepth 1000000 in
theorem ac5(x:Ex)(ih:∀ k,k<x.args.length→Hl (x.args.getD k default)):Hl x:=by
 intro M w hI cs hR bF bT LF LT hF hT aH Ko Kp hs ht
 obtain⟨aU,nU,cU,aA,cA,v4,v5,v6,v8,v9,v10,rfl,hlen,hA⟩:=adn hR
 unfold maxLen at hlen
 have JN:=ahY hF hT
 have Ks:(1099511627776:Nat)<maxLen:=by decide
 have Kb:=adH x
 have KR:=akY x
 rw[Kb]at Ko hs
 rw[KR]at Kp ht
 rw[Kb,KR]
 clear Kb KR hR
 obtain⟨a,ha⟩:∃ a:List ae,a=if x.kind=3∨x.kind=4 then[x.name]else[]:=⟨_,rfl⟩
 obtain⟨b,hb⟩:∃ b:List ae,b=if x.kind=5 then[x.table]else[]:=⟨_,rfl⟩
 rw[← ha]at Ko hs ⊢
 rw[← hb]at Kp ht ⊢
 rw[Z9]at Ko Kp
 have uv:cy (w.alloc (.cells #[.int .i64 x.kind,.string x.op,.string x.name,.string x.table,v4,v5,v6,.slice aU nU cU,v8,v9,v10,.slice aA x.args.length cA] 38)) bF LF:=hF.alloc _
 have zD:cy (w.alloc (.cells #[.int .i64 x.kind,.string x.op,.string x.name,.string x.table,v4,v5,v6,.slice aU nU cU,v8,v9,v10,.slice aA x.args.length cA] 38)) bT LT:=hT.alloc _
 have zu:bB w (w.alloc (.cells #[.int .i64 x.kind,.string x.op,.string x.name,.string x.table,v4,v5,v6,.slice aU nU cU,v8,v9,v10,.slice aA x.args.length cA] 38)) [bF,bT]:=(bB.refl w _).alloc _
 go_enter func73,ntmps73
 have aeA:x.kind=3∨x.kind=4∨x.kind=5∨(x.kind≠3∧x.kind≠4∧x.kind≠5):=by omega
 have hAdd:=fun(hk:x.kind=3∨x.kind=4)=>(show a=[x.name]∧b=[]from⟨by rw[ha,ZW hk],by rw[hb,Z5 (by omega)]⟩)
 have BN:=fun(hk:x.kind=5)=>(show a=[]∧b=[x.table]from⟨by rw[ha,Z5 (by omega)],by rw[hb,ZW hk]⟩)
 have BK:=fun(hk:x.kind≠3∧x.kind≠4∧x.kind≠5)=>(show a=[]∧b=[]from⟨by rw[ha,Z5 (by omega)],by rw[hb,Z5 (by omega)]⟩)
 clear ha hb
 have JT:=hF.lt
 have hbT:=hT.lt
 obtain⟨Rel,mM⟩:∃ Rel:Nat→World→Prop,∀ k wr,Rel k wr↔(k≤x.args.length∧cy wr bF (eJ LF (a++Ex.dm (x.args.take k)))∧cy wr bT (eJ LT (b++Ex.bK (x.args.take k)))∧bB w wr [bF,bT]):=⟨_,fun _ _=>Iff.rfl⟩
 have zC:∀ wr,cy wr bF (eJ LF a)→cy wr bT (eJ LT b)→bB w wr [bF,bT]→Rel 0 wr:=fun wr h1 h2 h3=>(mM 0 wr).2 ⟨ZL _,by simpa[Ex.dm]using h1,by simpa[Ex.bK]using h2,h3⟩
 have JI:∀ wr,Rel x.args.length wr→cy wr bF (eJ LF (a++Ex.dm x.args))∧cy wr bT (eJ LT (b++Ex.bK x.args))∧bB w wr [bF,bT]:=fun wr h=>by
  obtain⟨_,h1,h2,h3⟩:=(mM _ _).1 h
  rw[XA]at h1 h2
  exact⟨h1,h2,h3⟩
 have Qb:∀ k,k<x.args.length→∀ wr,Rel k wr→∀ (W:World) (C:Array Value),RL M (x.args.getD k default).cells C.toList→bB wr W []→
   Calls prog 73 #[.agg C,.map (some bF),.map (some bT)] W fun e w'=>(∃ v,e= .returned v)∧Rel (k+1) w':=fun k hk wr hr W C hC hW=>by
  obtain⟨_,h1,h2,h3⟩:=(mM _ _).1 hr
  have Qi:bB w W [bF,bT]:=h3.trans hW (by simp)
  have BQ:=iM h1 hW (by simp)
  have hT2:=iM h2 hW (by simp)
  have l1:=Fe (a++Ex.dm (x.args.take k)) LF
  have l2:=Fe (b++Ex.bK (x.args.take k)) LT
  have m1:=adF x.args (k+1)
  have m2:=akV x.args (k+1)
  rw[Jb _ hk]at m1
  rw[MJ _ hk]at m2
  rw[Z9]at l1 l2 m1 m2
  refine(ih k hk M W (K9 hI Qi JN) C hC bF bT _ _ BQ hT2 aH (by omega) (by omega) (fun s h=>hs s (Zp _ (adG _ hk h))) (fun s h=>ht s (Zp _ (akX _ hk h)))).mono fun e w' ⟨g1,g2,g3,g4⟩=>⟨g1,?_⟩
  refine(mM _ _).2 ⟨hk,?_,?_,Qi.trans g4 (by simp)⟩
  ·rw[Jb _ hk,← Zt,RB];exact g2
  ·rw[MJ _ hk,← Zt,RB];exact g3
 have JD:∀ k,k<x.args.length→∀ wr,Rel k wr→∃ bb off,aA=some ⟨bb,off,none⟩∧∃ C:Array Value,RL M (x.args.getD k default).cells C.toList∧C.toList.length=12∧∀ j (hj:j<C.toList.length),wr.cell? ⟨bb,off+k * 12+j,none⟩=some C.toList[j]:=fun k hk wr hr=>by
  obtain⟨_,h1,h2,h3⟩:=(mM _ _).1 hr
  obtain⟨bb,off,e,C,g1,g2,g3⟩:=hA k hk
  exact⟨bb,off,e,C,g1,g2,fun j hj=>(K9 hI h3 JN).cH _ _ _ (g3 j hj)⟩
 clear mM JN hA ih hI
 rcases aeA with hk|hk|hk|hk
 obtain⟨rfl,rfl⟩:=hAdd (.inl hk)
 rw[hk]at uv zD zu ⊢
 clear hk hAdd BN BK
 rotate_left
 obtain⟨rfl,rfl⟩:=hAdd (.inr hk)
 rw[hk]at uv zD zu ⊢
 clear hk hAdd BN BK
 rotate_left
 obtain⟨rfl,rfl⟩:=BN hk
 rw[hk]at uv zD zu ⊢
 clear hk hAdd BN BK
 rotate_left
 obtain⟨rfl,rfl⟩:=BK hk
 have Kl:(x.kind == 3)=false:=by simpa using hk.1
 have hk4:(x.kind == 4)=false:=by simpa using hk.2.1
 have hk5:(x.kind == 5)=false:=by simpa using hk.2.2
 clear hk hAdd BN BK
 rotate_left
 go_wp2_with (first|(at_mapUpdate;refine G6 _ rfl _ _ _ 96 rfl underlying9 underlying4 underlying96 bF LF rfl uv (by omega) x.name rfl (hs _ (by simp)) rfl ?_;intro w1 EH gY;have EC:=zu.trans (bB.lq gY) (by simp);have zw:=iM zD (bB.lq gY) (by simp;omega);have e9:w1.cell? ⟨w.heap.size,11,none⟩=some (.slice aA x.args.length cA):=On (bB.lq gY) (by simp;omega) rfl;clear gY)|(at_mapUpdate;refine G6 _ rfl _ _ _ 96 rfl underlying9 underlying4 underlying96 bT LT rfl zD (by omega) x.table rfl (ht _ (by simp)) rfl ?_;intro w1 EH gY;have EC:=zu.trans (bB.lq gY) (by simp);have zw:=iM uv (bB.lq gY) (by simp;omega);have e9:w1.cell? ⟨w.heap.size,11,none⟩=some (.slice aA x.args.length cA):=On (bB.lq gY) (by simp;omega) rfl;clear gY)|fail)
 all_goals go_loopw [24] (fun i wr=>∃ k:Nat,i= .int .i64 k∧k≤x.args.length∧Rel k wr) (fun i _=>x.args.length-(intOf i).toNat)
 case atStart=>
  refine⟨0,rfl,ZL _,?_⟩
  first|exact zC _ EH zw EC|fail
 case atStart=>
  refine⟨0,rfl,ZL _,?_⟩
  first|exact zC _ EH zw EC|fail
 case atStart=>
  refine⟨0,rfl,ZL _,?_⟩
  first|exact zC _ zw EH EC|fail
 case atStart=>
  refine⟨0,rfl,ZL _,?_⟩
  exact zC _ uv zD zu
 all_goals
  obtain⟨k,rfl,cj,hr⟩:=hrel
  by_cases ar:k<x.args.length
  ·obtain⟨bb,off,rfl,C,hC,hl,hcell⟩:=JD k ar _ hr
   have EJ:Sx.gM prog 38=some (true,C.toList.length):=by rw[hl];kernel_rfl
   have P7:C.size=12:=by rw[← hl,Zv]
   have Q9:(prog.info? 38).map (·.size)=some C.size:=by rw[P7];kernel_rfl
   have xk:C.all (·.oneCell')=true:=by rw[← Yl];exact hC.oL (by rw[congrFun Ex.oP _];rfl)
   clear zC JI JD
   go_wp2_with (first
    |(show wpList _ _ _ (⟨some 27,_,_,_,_,_⟩::_) _ _;refine yR rfl 38 (.tmp 26) rfl bb (off+k * 12) rfl C hcell EJ ?_)
    |(show wpList _ _ _ (⟨none,.store _ _ _,_,_,_,_⟩::_) _ _;refine wpList_store_row rfl 38 (.tmp 7) (.tmp 27) rfl wr.heap.size C rfl rfl 38 _ (heap_alloc_new _ _) Q9 P7.symm xk ?_)
    |(show wpList _ _ _ (⟨some 28,_,_,_,_,_⟩::_) _ _;refine wpList_load_row rfl 38 (.tmp 7) rfl wr.heap.size rfl 38 C (0,0) _ (setRow_heap _ _ _ _ _ _ (heap_alloc_new _ _)) underlying38 rfl Q9 ?_)
    |(go_at_call 73;refine(Qb k ar _ hr _ C hC (Ss _ _ _ _)).mono ?_))
   rintro e W1 ⟨⟨v,rfl⟩,eZ⟩
   go_wp2
   go_roundw
   case rel=>exact⟨k+1,by go_num,ar,eZ⟩
   case measure=>simp[intOf];omega
  ·obtain rfl:k=x.args.length:=by omega
   have hE:=JI _ hr
   clear zC JI JD Qb
   go_wp2
   go_end0
   exact⟨⟨_,rfl⟩,hE⟩
theorem Ex.Mp(x:Ex){k:Nat}(hk:k<x.args.length):(x.args.getD k default).size<x.size:=by
 have h1:=Ex.UT hk
 have h2:=Ex.UU x.args (k+1)
 cases x;simp only[Ex.size,Ex.args]at *;omega
theorem IX:∀ (n:Nat) (x:Ex),x.size≤n→Hl x
 |0,x,h=>by cases x;simp[Ex.size]at h
 |n+1,x,h=>ac5 x fun k hk=>IX n _ (by
  have:=Ex.Mp x hk;omega)
end Go.Proofs.YtajimcniogfpcaaGreatDoor
