/- catalog.direct: what an expression directly uses goes into two maps. -/
import Derived.Test.YtekngilbecjkhaaGreatDoorCc
set_option linter.unusedVariables false
set_option linter.unusedSimpArgs false
namespace Go.Proofs.YtekngilbecjkhaaGreatDoor
open Go.RowKit Go.Proofs Go.Tb
open Go.Sx (AV Inv Mem RL R M0 Glob)
abbrev SetAt(w:World)(b:Nat)(L:List Str):Prop:=set w Tryz.prog 9 4 b L
theorem c_load{ops:Array Oper}{rest:List Oper}{o:Oper}{a:Act}{w:World}{Q:Exit→Act→World→Prop}(hgd:o.guard=none)(ty:TypeId)(x:Operand)(ho:o.op= .load ty x)
  (b off:Nat) (hx:a.eval x= .pointer (some ⟨b,off,none⟩)) (C:Array Value) (hc:∀ j (hj:j<C.toList.length),w.cell? ⟨b,off+j,none⟩=some C.toList[j]) (ht:Sx.aggT Tryz.prog ty=some (true,C.toList.length))
  (h:wpList Tryz.prog ops Q rest (a.put o.dst (.agg C)) w):wpList Tryz.prog ops Q (o::rest) a w:=
 wpList_plain hgd fun _ hK=>by
  have hr:(Instr.loadAt ty (.pointer (some ⟨b,off,none⟩))).run Tryz.prog w= .ok (.agg C.toList.toArray) w:=by
   obtain⟨h1,h2⟩:=Sx.aggT_run ht w
   simp only[Instr.loadAt,Instr.sureAddr,loadVar,Sem.run_bind,Sem.run_pure,Result.andThen_ok,h1]
   simp only[if_true,Sem.run_bind,h2,Result.andThen_ok,Sx.run_loads b off C.toList.length C.toList rfl hc,Sem.run_pure]
  unfold Oper.wp execOp
  simp only[ho,hx,hr,Sem.run_bind,Result.andThen_ok,Sem.run_pure,Array.toArray_toList]
  exact hK _ _ h
theorem c_rows{M:Mem}{nn:Bool}{esz:Nat}{rows:List (List AV)}{v:Value}(h:R M (.sl nn esz rows) v):
  ∃ a cap,v= .slice a rows.length cap∧∀ i (hi:i<rows.length),∃ bb off,a=some ⟨bb,off,none⟩∧∃ cs:List Value,RL M rows[i] cs∧cs.length=esz∧∀ j (hj:j<cs.length),M bb (off+i * esz+j)=some cs[j]:=by
 cases h with
 |nil _ _ a _=>exact⟨a,0,rfl,fun i hi=>absurd hi (by simp)⟩
 |sl _ _ _ b off cap cs hsz hM hR hc hm=>
  refine⟨_,cap,rfl,fun i hi=>⟨b,off,rfl,(List.range esz).map fun j=>cs (i * esz+j),⟨by rw[hsz i hi];simp,fun j h1 h2=> ?_⟩,by simp,fun j hj=> ?_⟩⟩
  ·simp only[List.getElem_map,List.getElem_range];exact hR i hi j h1
  ·simp only[List.getElem_map,List.getElem_range]
   have hj':j<esz:=by simpa using hj
   rw[Nat.add_assoc]
   refine hM _ ?_
   have:=Nat.mul_le_mul_right esz (show i+1≤rows.length from hi)
   rw[Nat.add_mul,Nat.one_mul]at this
   omega
theorem sl_len{M:Mem}{nn:Bool}{esz:Nat}{rows:List (List AV)}{v:Value}(h:R M (.sl nn esz rows) v):rows.length≤maxLen:=by
 rcases h.of_sl with⟨a,_,h,rfl⟩|⟨b,off,cap,cs,rfl,hr,h4,h5⟩
 ·subst_vars;simp
 ·omega
theorem c_sl{M:Mem}{nn:Bool}{esz:Nat}{rows:List (List AV)}{v:Value}(h:R M (.sl nn esz rows) v):∃ a n c,v= .slice a n c:=by
 obtain⟨a,c,h,_⟩:=c_rows h;exact⟨a,_,c,h⟩
theorem ex_vals{M:Mem}{x:Ex}{cs:Array Value}(h:RL M x.cells cs.toList):∃ aU nU cU aA cA v4 v5 v6 v8 v9 v10,cs= #[.int .i64 x.kind,.string x.op,.string x.name,.string x.table,v4,v5,v6,.slice aU nU cU,v8,v9,v10,.slice aA x.args.length cA]∧x.args.length≤maxLen∧
  ∀ i (hi:i<x.args.length),∃ bb off,aA=some ⟨bb,off,none⟩∧∃ C:Array Value,RL M (x.args.getD i default).cells C.toList∧C.toList.length=12∧∀ j (hj:j<C.toList.length),M bb (off+i * 12+j)=some C.toList[j]:=by
 rw[congrFun Ex.cells_row x]at h
 obtain⟨v0,l0,e0,h0,h⟩:=h.uncons
 obtain⟨v1,l1,rfl,h1,h⟩:=h.uncons
 obtain⟨v2,l2,rfl,h2,h⟩:=h.uncons
 obtain⟨v3,l3,rfl,h3,h⟩:=h.uncons
 obtain⟨v4,l4,rfl,h4,h⟩:=h.uncons
 obtain⟨v5,l5,rfl,h5,h⟩:=h.uncons
 obtain⟨v6,l6,rfl,h6,h⟩:=h.uncons
 obtain⟨v7,l7,rfl,h7,h⟩:=h.uncons
 obtain⟨v8,l8,rfl,h8,h⟩:=h.uncons
 obtain⟨v9,l9,rfl,h9,h⟩:=h.uncons
 obtain⟨v10,l10,rfl,h10,h⟩:=h.uncons
 obtain⟨v11,l11,rfl,h11,h⟩:=h.uncons
 obtain rfl:=h.unnil
 obtain⟨aU,nU,cU,rfl⟩:=c_sl h7
 have hlen:=sl_len h11
 rw[List.length_map]at hlen
 obtain⟨aA,cA,rfl,hA⟩:=c_rows h11
 refine⟨aU,nU,cU,aA,cA,v4,v5,v6,v8,v9,v10,?_,hlen,fun i hi=> ?_⟩
 ·rw[h0.of_v,h1.of_v,h2.of_v,h3.of_v]at e0
  rw[← Array.toList_inj,e0,List.length_map]
 ·obtain⟨bb,off,e,cs',g1,g2,g3⟩:=hA i (by rw[List.length_map];exact hi)
  refine⟨bb,off,e,cs'.toArray,?_,by simpa using g2,fun j hj=>by simpa using g3 j (by simpa using hj)⟩
  rw[List.getElem_map]at g1
  rw[show x.args.getD i default=x.args[i] by simp[List.getD_eq_getElem?_getD,hi]]
  simpa using g1
theorem featsL_app:∀ (l l':List Ex),Ex.featsL (l++l')=Ex.featsL l++Ex.featsL l'
 |[],l'=>by simp[Ex.featsL]
 |x::l,l'=>by rw[List.cons_append,Ex.featsL,featsL_app l l',Ex.featsL,List.append_assoc]
theorem tabsL_app:∀ (l l':List Ex),Ex.tabsL (l++l')=Ex.tabsL l++Ex.tabsL l'
 |[],l'=>by simp[Ex.tabsL]
 |x::l,l'=>by rw[List.cons_append,Ex.tabsL,tabsL_app l l',Ex.tabsL,List.append_assoc]
theorem c_take(l:List Ex){k:Nat}(h:k<l.length):l.take (k+1)=l.take k++[l.getD k default]:=by
 rw[List.take_succ_eq_append_getElem h,List.getD_eq_getElem?_getD,List.getElem?_eq_getElem h];rfl
theorem featsL_take(l:List Ex){k:Nat}(h:k<l.length):Ex.featsL (l.take (k+1))=Ex.featsL (l.take k)++(l.getD k default).feats:=by
 rw[c_take l h,featsL_app];simp[Ex.featsL]
theorem tabsL_take(l:List Ex){k:Nat}(h:k<l.length):Ex.tabsL (l.take (k+1))=Ex.tabsL (l.take k)++(l.getD k default).tabs:=by
 rw[c_take l h,tabsL_app];simp[Ex.tabsL]
theorem featsL_sub(l:List Ex){k:Nat}(h:k<l.length){s:Str}(hs:s∈(l.getD k default).feats):s∈Ex.featsL l:=by
 have e:=featsL_app (l.take (k+1)) (l.drop (k+1))
 rw[List.take_append_drop,featsL_take l h]at e
 rw[e];exact List.mem_append_left _ (List.mem_append_right _ hs)
theorem tabsL_sub(l:List Ex){k:Nat}(h:k<l.length){s:Str}(hs:s∈(l.getD k default).tabs):s∈Ex.tabsL l:=by
 have e:=tabsL_app (l.take (k+1)) (l.drop (k+1))
 rw[List.take_append_drop,tabsL_take l h]at e
 rw[e];exact List.mem_append_left _ (List.mem_append_right _ hs)
theorem featsL_len(l:List Ex)(k:Nat):(Ex.featsL (l.take k)).length≤(Ex.featsL l).length:=by
 have e:=featsL_app (l.take k) (l.drop k)
 rw[List.take_append_drop]at e
 rw[e,List.length_append];omega
theorem tabsL_len(l:List Ex)(k:Nat):(Ex.tabsL (l.take k)).length≤(Ex.tabsL l).length:=by
 have e:=tabsL_app (l.take k) (l.drop k)
 rw[List.take_append_drop]at e
 rw[e,List.length_append];omega
theorem noCells2{w:World}{bF bT:Nat}{LF LT:List Str}(hF:SetAt w bF LF)(hT:SetAt w bT LT):NoCells w [bF,bT]:=noCells_cons hF.isMap (noCells_cons hT.isMap (noCells_nil w))
theorem keep_row(w:World)(o:Obj)(C:Array Value)(l:List Nat):Keep w ((w.alloc o).setRow w.heap.size C) l:=by
 refine⟨rfl,rfl,rfl,?_,fun k hk _=> ?_⟩
 ·show w.heap.size≤((w.alloc o).setRow w.heap.size C).heap.size
  simp[World.setRow]
 ·rw[setRow_other _ _ _ _ (by omega)];exact heap_alloc_old _ _ hk
theorem cell_box{w w1:World}{cs:Array Value}{t:TypeId}{l:List Nat}(hk:Keep (w.alloc (.cells cs t)) w1 l)(hn:w.heap.size∉l){j:Nat}{v:Value}(h:cs[j]? =some v):w1.cell? ⟨w.heap.size,j,none⟩=some v:=by
 have h1:w1.heap[w.heap.size]? =some (.cells cs t (0,0)):=(hk.block w.heap.size (by simp) hn).trans (heap_alloc_new _ _)
 simpa[World.cell?,h1]using h
def DirectAt(x:Ex):Prop:=
 ∀ (M:Mem) (w:World) (_:Inv Tryz.prog M w [] w) (cs:Array Value) (_:RL M x.cells cs.toList) (bF bT:Nat) (LF LT:List Str) (_:SetAt w bF LF) (_:SetAt w bT LT) (_:bF≠bT),
  LF.length+x.feats.length≤1099511627776→LT.length+x.tabs.length≤1099511627776→(∀ s∈x.feats,s.size≤maxLen)→(∀ s∈x.tabs,s.size≤maxLen)→
  Calls Tryz.prog 45 #[.agg cs,.map (some bF),.map (some bT)] w fun e w'=>(∃ v,e= .returned v)∧SetAt w' bF (insAll LF x.feats)∧SetAt w' bT (insAll LT x.tabs)∧Keep w w' [bF,bT]
theorem feats_eq(x:Ex):x.feats=(if x.kind=3∨x.kind=4 then[x.name]else[])++Ex.featsL x.args:=by cases x;rw[Ex.feats];rfl
theorem tabs_eq(x:Ex):x.tabs=(if x.kind=5 then[x.table]else[])++Ex.tabsL x.args:=by cases x;rw[Ex.tabs];rfl
set_option maxHeartbeats 4000000 in
set_option maxRecDepth 1000000 in
theorem direct_step(x:Ex)(ih:∀ k,k<x.args.length→DirectAt (x.args.getD k default)):DirectAt x:=by
 intro M w hI cs hR bF bT LF LT hF hT hne hlF hlT hs ht
 obtain⟨aU,nU,cU,aA,cA,v4,v5,v6,v8,v9,v10,rfl,hlen,hA⟩:=ex_vals hR
 unfold maxLen at hlen
 have hNC:=noCells2 hF hT
 have hmm:(1099511627776:Nat)<maxLen:=by decide
 have hfe:=feats_eq x
 have hte:=tabs_eq x
 rw[hfe]at hlF hs
 rw[hte]at hlT ht
 rw[hfe,hte]
 clear hfe hte hR
 obtain⟨a,ha⟩:∃ a:List Str,a=if x.kind=3∨x.kind=4 then[x.name]else[]:=⟨_,rfl⟩
 obtain⟨b,hb⟩:∃ b:List Str,b=if x.kind=5 then[x.table]else[]:=⟨_,rfl⟩
 rw[← ha]at hlF hs ⊢
 rw[← hb]at hlT ht ⊢
 rw[List.length_append]at hlF hlT
 have hF0:SetAt (w.alloc (.cells #[.int .i64 x.kind,.string x.op,.string x.name,.string x.table,v4,v5,v6,.slice aU nU cU,v8,v9,v10,.slice aA x.args.length cA] 37)) bF LF:=hF.alloc _
 have hT0:SetAt (w.alloc (.cells #[.int .i64 x.kind,.string x.op,.string x.name,.string x.table,v4,v5,v6,.slice aU nU cU,v8,v9,v10,.slice aA x.args.length cA] 37)) bT LT:=hT.alloc _
 have hK0:Keep w (w.alloc (.cells #[.int .i64 x.kind,.string x.op,.string x.name,.string x.table,v4,v5,v6,.slice aU nU cU,v8,v9,v10,.slice aA x.args.length cA] 37)) [bF,bT]:=(Keep.refl w _).alloc _
 go_enter Tryz.func45,Tryz.ntmps45
 have hcase:x.kind=3∨x.kind=4∨x.kind=5∨(x.kind≠3∧x.kind≠4∧x.kind≠5):=by omega
 have hAdd:=fun(hk:x.kind=3∨x.kind=4)=>(show a=[x.name]∧b=[]from⟨by rw[ha,if_pos hk],by rw[hb,if_neg (by omega)]⟩)
 have hAdd5:=fun(hk:x.kind=5)=>(show a=[]∧b=[x.table]from⟨by rw[ha,if_neg (by omega)],by rw[hb,if_pos hk]⟩)
 have hAdd0:=fun(hk:x.kind≠3∧x.kind≠4∧x.kind≠5)=>(show a=[]∧b=[]from⟨by rw[ha,if_neg (by omega)],by rw[hb,if_neg (by omega)]⟩)
 clear ha hb
 have hbF:=hF.lt
 have hbT:=hT.lt
 obtain⟨Rel,hRel⟩:∃ Rel:Nat→World→Prop,∀ k wr,Rel k wr↔(k≤x.args.length∧SetAt wr bF (insAll LF (a++Ex.featsL (x.args.take k)))∧SetAt wr bT (insAll LT (b++Ex.tabsL (x.args.take k)))∧Keep w wr [bF,bT]):=⟨_,fun _ _=>Iff.rfl⟩
 have hStart:∀ wr,SetAt wr bF (insAll LF a)→SetAt wr bT (insAll LT b)→Keep w wr [bF,bT]→Rel 0 wr:=fun wr h1 h2 h3=>(hRel 0 wr).2 ⟨Nat.zero_le _,by simpa[Ex.featsL]using h1,by simpa[Ex.tabsL]using h2,h3⟩
 have hEnd:∀ wr,Rel x.args.length wr→SetAt wr bF (insAll LF (a++Ex.featsL x.args))∧SetAt wr bT (insAll LT (b++Ex.tabsL x.args))∧Keep w wr [bF,bT]:=fun wr h=>by
  obtain⟨_,h1,h2,h3⟩:=(hRel _ _).1 h
  rw[List.take_length]at h1 h2
  exact⟨h1,h2,h3⟩
 have hArgs:∀ k,k<x.args.length→∀ wr,Rel k wr→∀ (W:World) (C:Array Value),RL M (x.args.getD k default).cells C.toList→Keep wr W []→
   Calls Tryz.prog 45 #[.agg C,.map (some bF),.map (some bT)] W fun e w'=>(∃ v,e= .returned v)∧Rel (k+1) w':=fun k hk wr hr W C hC hW=>by
  obtain⟨_,h1,h2,h3⟩:=(hRel _ _).1 hr
  have hKW:Keep w W [bF,bT]:=h3.trans hW (by simp)
  have hF2:=set_keep h1 hW (by simp)
  have hT2:=set_keep h2 hW (by simp)
  have l1:=insAll_len (a++Ex.featsL (x.args.take k)) LF
  have l2:=insAll_len (b++Ex.tabsL (x.args.take k)) LT
  have m1:=featsL_len x.args (k+1)
  have m2:=tabsL_len x.args (k+1)
  rw[featsL_take _ hk]at m1
  rw[tabsL_take _ hk]at m2
  rw[List.length_append]at l1 l2 m1 m2
  refine(ih k hk M W (inv_keep hI hKW hNC) C hC bF bT _ _ hF2 hT2 hne (by omega) (by omega) (fun s h=>hs s (List.mem_append_right _ (featsL_sub _ hk h))) (fun s h=>ht s (List.mem_append_right _ (tabsL_sub _ hk h)))).mono fun e w' ⟨g1,g2,g3,g4⟩=>⟨g1,?_⟩
  refine(hRel _ _).2 ⟨hk,?_,?_,hKW.trans g4 (by simp)⟩
  ·rw[featsL_take _ hk,← List.append_assoc,insAll_app];exact g2
  ·rw[tabsL_take _ hk,← List.append_assoc,insAll_app];exact g3
 have hCell:∀ k,k<x.args.length→∀ wr,Rel k wr→∃ bb off,aA=some ⟨bb,off,none⟩∧∃ C:Array Value,RL M (x.args.getD k default).cells C.toList∧C.toList.length=12∧∀ j (hj:j<C.toList.length),wr.cell? ⟨bb,off+k * 12+j,none⟩=some C.toList[j]:=fun k hk wr hr=>by
  obtain⟨_,h1,h2,h3⟩:=(hRel _ _).1 hr
  obtain⟨bb,off,e,C,g1,g2,g3⟩:=hA k hk
  exact⟨bb,off,e,C,g1,g2,fun j hj=>(inv_keep hI h3 hNC).imm _ _ _ (g3 j hj)⟩
 clear hRel hNC hA ih hI
 rcases hcase with hk|hk|hk|hk
 obtain⟨rfl,rfl⟩:=hAdd (.inl hk)
 rw[hk]at hF0 hT0 hK0 ⊢
 clear hk hAdd hAdd5 hAdd0
 rotate_left
 obtain⟨rfl,rfl⟩:=hAdd (.inr hk)
 rw[hk]at hF0 hT0 hK0 ⊢
 clear hk hAdd hAdd5 hAdd0
 rotate_left
 obtain⟨rfl,rfl⟩:=hAdd5 hk
 rw[hk]at hF0 hT0 hK0 ⊢
 clear hk hAdd hAdd5 hAdd0
 rotate_left
 obtain⟨rfl,rfl⟩:=hAdd0 hk
 have hk3:(x.kind == 3)=false:=by simpa using hk.1
 have hk4:(x.kind == 4)=false:=by simpa using hk.2.1
 have hk5:(x.kind == 5)=false:=by simpa using hk.2.2
 clear hk hAdd hAdd5 hAdd0
 rotate_left
 go_wp2_with (first|(at_mapUpdate;refine wp_add _ rfl _ _ _ 70 rfl Tryz.underlying9 Tryz.underlying4 Tryz.underlying70 bF LF rfl hF0 (by omega) x.name rfl (hs _ (by simp)) rfl ?_;intro w1 hU1 hg1;have hK1:=hK0.trans (Keep.of_grown hg1) (by simp);have hO1:=set_keep hT0 (Keep.of_grown hg1) (by simp;omega);have c11:w1.cell? ⟨w.heap.size,11,none⟩=some (.slice aA x.args.length cA):=cell_box (Keep.of_grown hg1) (by simp;omega) rfl;clear hg1)|(at_mapUpdate;refine wp_add _ rfl _ _ _ 70 rfl Tryz.underlying9 Tryz.underlying4 Tryz.underlying70 bT LT rfl hT0 (by omega) x.table rfl (ht _ (by simp)) rfl ?_;intro w1 hU1 hg1;have hK1:=hK0.trans (Keep.of_grown hg1) (by simp);have hO1:=set_keep hF0 (Keep.of_grown hg1) (by simp;omega);have c11:w1.cell? ⟨w.heap.size,11,none⟩=some (.slice aA x.args.length cA):=cell_box (Keep.of_grown hg1) (by simp;omega) rfl;clear hg1)|fail)
 all_goals go_loopw [24] (fun i wr=>∃ k:Nat,i= .int .i64 k∧k≤x.args.length∧Rel k wr) (fun i _=>x.args.length-(intOf i).toNat)
 case atStart=>
  refine⟨0,rfl,Nat.zero_le _,?_⟩
  first|exact hStart _ hU1 hO1 hK1|fail
 case atStart=>
  refine⟨0,rfl,Nat.zero_le _,?_⟩
  first|exact hStart _ hU1 hO1 hK1|fail
 case atStart=>
  refine⟨0,rfl,Nat.zero_le _,?_⟩
  first|exact hStart _ hO1 hU1 hK1|fail
 case atStart=>
  refine⟨0,rfl,Nat.zero_le _,?_⟩
  exact hStart _ hF0 hT0 hK0
 all_goals
  obtain⟨k,rfl,hk',hr⟩:=hrel
  by_cases hlt:k<x.args.length
  ·obtain⟨bb,off,rfl,C,hC,hl,hcell⟩:=hCell k hlt _ hr
   have hag:Sx.aggT Tryz.prog 37=some (true,C.toList.length):=by rw[hl];kernel_rfl
   have h12:C.size=12:=by rw[← hl,Array.length_toList]
   have hsz12:(Tryz.prog.info? 37).map (·.size)=some C.size:=by rw[h12];kernel_rfl
   have hone:C.all (·.oneCell')=true:=by rw[← Array.all_toList];exact hC.all_one (by rw[congrFun Ex.cells_row _];rfl)
   clear hStart hEnd hCell
   go_wp2_with (first
    |(show wpList _ _ _ (⟨some 27,_,_,_,_,_⟩::_) _ _;refine c_load rfl 37 (.tmp 26) rfl bb (off+k * 12) rfl C hcell hag ?_)
    |(show wpList _ _ _ (⟨none,.store _ _ _,_,_,_,_⟩::_) _ _;refine wpList_store_row rfl 37 (.tmp 7) (.tmp 27) rfl wr.heap.size C rfl rfl 37 _ (heap_alloc_new _ _) hsz12 h12.symm hone ?_)
    |(show wpList _ _ _ (⟨some 28,_,_,_,_,_⟩::_) _ _;refine wpList_load_row rfl 37 (.tmp 7) rfl wr.heap.size rfl 37 C (0,0) _ (setRow_heap _ _ _ _ _ _ (heap_alloc_new _ _)) Tryz.underlying37 rfl hsz12 ?_)
    |(go_at_call 45;refine(hArgs k hlt _ hr _ C hC (keep_row _ _ _ _)).mono ?_))
   rintro e W1 ⟨⟨v,rfl⟩,hr1⟩
   go_wp2
   go_roundw
   case rel=>exact⟨k+1,by go_num,hlt,hr1⟩
   case measure=>simp[intOf];omega
  ·obtain rfl:k=x.args.length:=by omega
   have hE:=hEnd _ hr
   clear hStart hEnd hCell hArgs
   go_wp2
   go_end0
   exact⟨⟨_,rfl⟩,hE⟩
theorem Ex.size_arg(x:Ex){k:Nat}(hk:k<x.args.length):(x.args.getD k default).size<x.size:=by
 have h1:=Ex.sizeL_take hk
 have h2:=Ex.sizeL_take_le x.args (k+1)
 cases x;simp only[Ex.size,Ex.args]at *;omega
theorem direct_ok:∀ (n:Nat) (x:Ex),x.size≤n→DirectAt x
 |0,x,h=>by cases x;simp[Ex.size]at h
 |n+1,x,h=>direct_step x fun k hk=>direct_ok n _ (by
  have:=Ex.size_arg x hk;omega)
end Go.Proofs.YtekngilbecjkhaaGreatDoor
