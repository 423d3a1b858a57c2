/- Sources one after the other: the items of both (plain). -/
import Derived.Test.YtbihckigennlhaaGreatDoorTg
import Derived.Test.YtbihckigennlhaaGreatDoorUc
set_option linter.unusedVariables false
set_option linter.unusedSimpArgs false
namespace Go.Proofs.YtbihckigennlhaaGreatDoor
open Go.Sx Go.Proofs
theorem lex_step(n:Nat)(at_ st:Int){s:Bs}(hs:s≠[]):lexL (n+1) at_ st s=
  if(pieceL s).1= -1 then((lexL n (at_+1) at_ (s.drop 1)).1,if st≠at_-1∨at_=0 then⟨at_,(pieceL s).2.2⟩::(lexL n (at_+1) at_ (s.drop 1)).2 else(lexL n (at_+1) at_ (s.drop 1)).2)
  else if(pieceL s).2.2≠0 then((lexL n (at_+(pieceL s).2.1) st (s.drop (pieceL s).2.1)).1,⟨at_,(pieceL s).2.2⟩::(lexL n (at_+(pieceL s).2.1) st (s.drop (pieceL s).2.1)).2)
  else if(pieceL s).1=4 then(⟨4,⟨((s.take ((pieceL s).2.1-1)).drop 1).toArray⟩,at_⟩::(lexL n (at_+(pieceL s).2.1) st (s.drop (pieceL s).2.1)).1,(lexL n (at_+(pieceL s).2.1) st (s.drop (pieceL s).2.1)).2)
  else if(pieceL s).1≠0 then(⟨(pieceL s).1,⟨(s.take (pieceL s).2.1).toArray⟩,at_⟩::(lexL n (at_+(pieceL s).2.1) st (s.drop (pieceL s).2.1)).1,(lexL n (at_+(pieceL s).2.1) st (s.drop (pieceL s).2.1)).2)
  else lexL n (at_+(pieceL s).2.1) st (s.drop (pieceL s).2.1):=by
 rw[lexL,if_neg hs]
section
variable {R:List Tok→List Tok→Prop}{D:List Tok→Prop}{φ:Int→Int}{DE:Int→Prop}
end
theorem lex_end:∀ (n:Nat) (at_ st:Int) (s:Bs),EndL (lexL n at_ st s).1
 |0,at_,st,s=>⟨[],_,rfl,rfl⟩
 |n+1,at_,st,s=>by
  by_cases hs:s=[]
  ·subst hs;rw[lex_nil];exact⟨[],_,rfl,rfl⟩
  have key:∀ (t:Tok) {L:List Tok},EndL L→EndL (t::L):=fun t L ⟨M,e,h1,h2⟩=>⟨t::M,e,by rw[h1];rfl,h2⟩
  rw[lex_step _ _ _ hs]
  split
  ·exact lex_end n _ _ _
  split
  ·exact lex_end n _ _ _
  split
  ·exact key _ (lex_end n _ _ _)
  split
  ·exact key _ (lex_end n _ _ _)
  ·exact lex_end n _ _ _
theorem PR.bind_congr{α β:Type}{r:PR α}{g g':α→List Tok→PR β}(h:∀ a L,r= .ok a L→g a L=g' a L):r.bind g=r.bind g':=by
 cases r with
 |ok a L=>exact h a L rfl
 |err p c=>rfl
structure FuE(n m:Nat):Prop where
 expr:∀ i L,EndL L→8 * L.length+7≤n→8 * L.length+7≤m→exprP n i L=exprP m i L
 def_:∀ i x L,EndL L→8 * L.length+7≤n→8 * L.length+7≤m→defP n i x L=defP m i x L
 bin:∀ l i L,EndL L→8 * L.length+6≤n→8 * L.length+6≤m→binP n l i L=binP m l i L
 ops:∀ l o i x L,EndL L→8 * L.length+7≤n→8 * L.length+7≤m→opsP n l o i x L=opsP m l o i x L
 operand:∀ l i L,EndL L→8 * L.length+5≤n→8 * L.length+5≤m→operandP n l i L=operandP m l i L
 prim:∀ i L,EndL L→8 * L.length+4≤n→8 * L.length+4≤m→primP n i L=primP m i L
 group:∀ i L,EndL L→8 * L.length+3≤n→8 * L.length+3≤m→groupP n i L=groupP m i L
 word:∀ i L,EndL L→(hd L).kind≠6→8 * L.length+3≤n→8 * L.length+3≤m→wordP n i L=wordP m i L
 agg:∀ o L,EndL L→8 * L.length+3≤n→8 * L.length+3≤m→aggP n o L=aggP m o L
theorem fuE:∀ n m,FuE n m
 |0,m=>⟨fun _ _ _ h=>by omega,fun _ _ _ _ h=>by omega,fun _ _ _ _ h=>by omega,fun _ _ _ _ _ _ h=>by omega,fun _ _ _ _ h=>by omega,fun _ _ _ h=>by omega,fun _ _ _ h=>by omega,fun _ _ _ _ h=>by omega,fun _ _ _ h=>by omega⟩
 |n+1,0=>⟨fun _ _ _ _ h=>by omega,fun _ _ _ _ _ h=>by omega,fun _ _ _ _ _ h=>by omega,fun _ _ _ _ _ _ _ h=>by omega,fun _ _ _ _ _ h=>by omega,fun _ _ _ _ h=>by omega,fun _ _ _ _ h=>by omega,fun _ _ _ _ _ h=>by omega,fun _ _ _ _ h=>by omega⟩
 |n+1,m+1=>by
  have ih:=fuE n m
  have P:=posE m
  have need:∀ {k:Int} {s:Str} (hk:k≠6) {L L1:List Tok},EndL L→needP k s L= .ok () L1→EndL L1∧L1.length+1≤L.length:=fun {k s} hk {L L1} h e=>((Pos.need hk) L h).ok () L1 e |>.2
  refine⟨fun i L h h1 h2=> ?_,fun i x L h h1 h2=> ?_,fun l i L h h1 h2=> ?_,fun l o i x L h h1 h2=> ?_,fun l i L h h1 h2=> ?_,fun i L h h1 h2=> ?_,fun i L h h1 h2=> ?_,fun i L h hk h1 h2=> ?_,fun o L h h1 h2=> ?_⟩
  ·rw[exprP,exprP]
   by_cases hs:see 1 wIf L=true
   ·rw[if_pos hs,if_pos hs]
    obtain⟨t1,t2⟩:=h.tail (see_kind (k:=1) (by decide) L hs)
    rw[ih.expr i L.tail t1 (by omega) (by omega)]
    refine PR.bind_congr fun a L1 e1=>PR.bind_congr fun _ L2 e2=> ?_
    have p1:=(P.expr i L.tail t1).ok a L1 e1
    have p2:=need (by decide) p1.2.1 e2
    rw[ih.expr i L2 p2.1 (by omega) (by omega)]
    refine PR.bind_congr fun b L3 e3=>PR.bind_congr fun _ L4 e4=> ?_
    have p3:=(P.expr i L2 p2.1).ok b L3 e3
    have p4:=need (by decide) p3.2.1 e4
    rw[ih.expr i L4 p4.1 (by omega) (by omega)]
   ·rw[if_neg hs,if_neg hs,ih.bin 1 i L h (by omega) (by omega)]
    refine PR.bind_congr fun x L1 e1=> ?_
    have p1:=(P.bin 1 i L h).ok x L1 e1
    exact ih.def_ i x L1 p1.2.1 (by omega) (by omega)
  ·rw[defP,defP]
   by_cases hs:see 1 wDef L=true
   ·rw[if_pos hs,if_pos hs]
    obtain⟨t1,t2⟩:=h.tail (see_kind (k:=1) (by decide) L hs)
    rw[ih.bin 1 i L.tail t1 (by omega) (by omega)]
    refine PR.bind_congr fun y L1 e1=> ?_
    have p1:=(P.bin 1 i L.tail t1).ok y L1 e1
    exact ih.def_ i _ L1 p1.2.1 (by omega) (by omega)
   ·rw[if_neg hs,if_neg hs]
  ·rw[binP,binP,ih.operand l i L h (by omega) (by omega)]
   refine PR.bind_congr fun x L1 e1=> ?_
   have p1:=(P.operand l i L h).ok x L1 e1
   exact ih.ops l _ i x L1 p1.2.1 (by omega) (by omega)
  ·rw[opsP,opsP]
   by_cases hs:rankP L≥l∧rankP L≠0∧rankP L≤o
   ·rw[if_pos hs,if_pos hs]
    obtain⟨t1,t2⟩:=h.tail (rank_kind L hs.2.1)
    rw[ih.bin (rankP L+1) i L.tail t1 (by omega) (by omega)]
    refine PR.bind_congr fun y L1 e1=> ?_
    have p1:=(P.bin (rankP L+1) i L.tail t1).ok y L1 e1
    exact ih.ops l _ i _ L1 p1.2.1 (by omega) (by omega)
   ·rw[if_neg hs,if_neg hs]
  ·rw[operandP,operandP]
   by_cases hs:(decide (l≤3) && see 1 wNot L)=true
   ·rw[if_pos hs,if_pos hs]
    obtain⟨t1,t2⟩:=h.tail (see_kind (k:=1) (by decide) L (Bool.and_eq_true _ _ ▸ hs).2)
    rw[ih.bin 3 i L.tail t1 (by omega) (by omega)]
   ·rw[if_neg hs,if_neg hs]
    by_cases hs2:see 5 (ch 45) L=true
    ·rw[if_pos hs2,if_pos hs2]
     obtain⟨t1,t2⟩:=h.tail (see_kind (k:=5) (by decide) L hs2)
     rw[ih.operand 7 i L.tail t1 (by omega) (by omega)]
    ·rw[if_neg hs2,if_neg hs2]
     exact ih.prim i L h (by omega) (by omega)
  ·rw[primP,primP]
   by_cases k2:(hd L).kind=2
   ·rw[if_pos k2,if_pos k2]
   rw[if_neg k2,if_neg k2]
   by_cases k3:(hd L).kind=3
   ·rw[if_pos k3,if_pos k3]
   rw[if_neg k3,if_neg k3]
   by_cases k4:(hd L).kind=4
   ·rw[if_pos k4,if_pos k4]
   rw[if_neg k4,if_neg k4]
   by_cases k1:(hd L).kind=1
   ·rw[if_pos k1,if_pos k1];exact ih.word i L h (by rw[k1];decide) (by omega) (by omega)
   rw[if_neg k1,if_neg k1,ih.group i L h (by omega) (by omega)]
  ·rw[groupP,groupP]
   refine PR.bind_congr fun _ L1 e1=> ?_
   have p1:=need (by decide) h e1
   rw[ih.expr i L1 p1.1 (by omega) (by omega)]
  ·rw[wordP,wordP]
   obtain⟨t1,t2⟩:=h.tail hk
   rw[ih.group i L.tail t1 (by omega) (by omega),ih.agg (hd L).text L.tail t1 (by omega) (by omega)]
   split
   ·rfl
   split
   ·rfl
   split
   ·rfl
   ·refine PR.bind_congr fun s L1 e1=> ?_
    have p1:=(Pos.name L h).ok s L1 e1
    by_cases hi:i=true
    ·rw[if_pos hi,if_pos hi]
    ·rw[if_neg hi,if_neg hi]
     by_cases hs:see 1 wOf L1=true
     ·rw[if_pos hs,if_pos hs]
      obtain⟨u1,u2⟩:=p1.2.1.tail (see_kind (k:=1) (by decide) L1 hs)
      rw[ih.group i L1.tail u1 (by omega) (by omega)]
     ·rw[if_neg hs,if_neg hs]
  ·rw[aggP,aggP]
   refine PR.bind_congr fun _ L1 e1=>PR.bind_congr fun tb L2 e2=>PR.bind_congr fun _ L3 e3=> ?_
   have p1:=need (by decide) h e1
   have p2:=(Pos.name L1 p1.1).ok tb L2 e2
   have p3:=need (by decide) p2.2.1 e3
   rw[ih.expr true L3 p3.1 (by omega) (by omega)]
   refine PR.bind_congr fun a L5 e5=>PR.bind_congr fun p L7 e7=>PR.bind_congr fun w L8 e8=> ?_
   have q5:EndL L5∧L5.length≤L3.length:=by
    have hp:=(Pos.ite (c:=fun _=>o≠wCount) (Pos.bind (n:=0) (m:=0) ((P.expr true).le (by omega)) fun x=>Pos.map (g:=fun _=>x) ((Pos.need (k:=5) (s:=ch 44) (by decide)).le (by omega))) (Pos.pure (truE 1))) L3 p3.1
    have:=hp.ok a L5 e5
    exact⟨this.2.1,by omega⟩
   have q7:EndL L7∧L7.length≤L5.length:=by
    have hp:=(Pos.ite (c:=fun _=>o=wQuant∨o=wDecay) (Pos.bind (n:=0) (m:=0) (Pos.num.le (by omega)) fun x=>Pos.map (g:=fun _=>x) ((Pos.need (k:=5) (s:=ch 44) (by decide)).le (by omega))) (Pos.pure (0:Int))) L5 q5.1
    have:=hp.ok p L7 e7
    exact⟨this.2.1,by omega⟩
   have q8:=(Pos.window L7 q7.1).ok w L8 e8
   by_cases hs:see 1 wWhere L8=true
   ·rw[if_pos hs,if_pos hs]
    obtain⟨u1,u2⟩:=q8.2.1.tail (see_kind (k:=1) (by decide) L8 hs)
    rw[ih.expr true L8.tail u1 (by omega) (by omega)]
   ·rw[if_neg hs,if_neg hs]
set_option linter.unusedSectionVars false
set_option maxRecDepth 100000
set_option maxHeartbeats 4000000
section
variable {cfg:Nat→Nat}{K:Regs→Store→Prop}{E:List PanicEntry→Store→Prop}{σ τ:Store}{l:List CI}{d b b':Nat}{xr:XR}{ps:List Prop}{og:Option Bool}{g:Option (Nat×Bool)}{args:List Operand}{ys:List AV}{α:Type}{f:FuncId}{ins:Bool}{L:List Tok}{rest cs:List AV}{val:α→AV}{a:α}
theorem VX_rdq(h:argO xr g args=some (og,.lp 1000 b 0::ys,ps))(hp:RdS f ys ins L (.ok a L) val)(hl:lkt σ 1000=some (b',.cells cs))(hb:b=b')(hc:cs=rdC L ins++rest)(hps:OB ps)(hu:upt σ 1000 b (.cells (rdC L ins++rest))=σ)
  (k:VX Tryz.prog cfg l K E (putX og d (val a) xr) σ):VX Tryz.prog cfg (⟨some d,.call f args,g⟩::l) K E xr σ:=by
 subst hc
 subst hb
 refine VX_specg (val a) h (fun _=>Spec.at (fun τ'=>hp b rest τ') hl) hps (fun hg x σ' ⟨cs',hR,e1⟩=> ?_) (fun ch σ' ⟨cs',hR,e1⟩=>absurd hR.2.1 (by nofun)) (fun _=>k)
 obtain⟨h1,h2,h3⟩:=hR
 cases h2;subst h3;subst e1
 rw[hu]
 constructor
 have:=k.h
 rw[putX_t hg]at this
 exact this
end
theorem Wk_two{x y:Ex}:Wk (.sl true 12 [x.row,y.row]) (.sl false 12 ([x,y].map Ex.cells)):=by
 rw[Ex.cells_row];exact .sl
theorem ops_stop{n l most:Nat}{i:Bool}{x:Ex}{L:List Tok}(hn:8 * L.length+7≤n)(h:¬(rankP L≥l∧rankP L≠0∧rankP L≤most)):opsP n l most i x L= .ok x L:=by
 obtain⟨k,rfl⟩:∃ k,n=k+1:=⟨n-1,by omega⟩
 rw[opsP,if_neg h]
theorem ops_go{n l most:Nat}{i:Bool}{x:Ex}{L:List Tok}(hL:EndL L)(hn:8 * L.length+7≤n)(h:rankP L≥l∧rankP L≠0∧rankP L≤most):
  opsP n l most i x L=(binP n (rankP L+1) i L.tail).bind fun y L1=>opsP n l (if rankP L=4 then 3 else rankP L) i (binE (hd L).text x y) L1:=by
 obtain⟨k,rfl⟩:∃ k,n=k+1:=⟨n-1,by omega⟩
 have ht:=hL.tail (rank_kind L h.2.1)
 rw[opsP,if_pos h,(fuE k (k+1)).bin _ i L.tail ht.1 (by omega) (by omega)]
 refine PR.bind_congr fun y L1 e1=> ?_
 have p1:=((posE (k+1)).bin _ i L.tail ht.1).ok y L1 e1
 exact(fuE k (k+1)).ops _ _ i _ L1 p1.2.1 (by omega) (by omega)
theorem rank_le(L:List Tok):rankP L≤6:=by
 unfold rankP
 dsimp only
 repeat' split
 all_goals omega
theorem rd_binary{n:Nat}(ih:RecOk n)(l:Nat)(i:Bool)(L:List Tok)(hL:Gd L)(hn:8 * L.length+6≤n+1):RdS 79 [iv l] i L (binP (n+1) l i L) exV:=by
 refine RdS.intro fun b1 rest τ=> ?_
 refine Spec.runk (fun _=>0) Tryz.func79 comp79 era79 (Nat.le_of_ble_eq_true rfl) ?_
 rw[binP]
 repeat'(first|exact .nil|refine .k0 ?_|refine .k1 ?_|refine .k2 ?_|refine .r1 ?_ ?_|(refine .l1 ?_;intro b)|fail)
 all_goals(try simp only[BL]at *)
 rename Nat=>b4
 refine VX_rdq rfl (rd_peek L hL i 1 wNot) rfl rfl rfl (.cons (fun h=>h) .nil) (by simp(decide:=true)only[upt_hd,upt_ne]) ?_
 repeat'(first|exact .nil|refine .k0 ?_|refine .k1 ?_|refine .k2 ?_|refine .k4 ?_|refine .r1 ?_ ?_|fail)
 refine VX_rdc rfl (ih.operand l i L hL (by omega)) rfl rfl rfl .nil ?_ (fun _ _ h=>FK_pan h) (fun _=>Zs) (fun x L1 hr1 hL1=> ?_)
 ·exact fun p c h=>by rw[h];rfl
 have hp1:=((posE n).operand l i L hL.e).ok x L1 hr1
 rw[hr1,PR.bind_ok]
 simp(decide:=true)only[upt_hd,upt_ne]
 repeat'((fail_if_success (show WK _ _ _ _ _ _ _ _));(first|exact .nil|refine .k0 ?_|refine .k1 ?_|refine .r1 ?_ ?_|(refine .l1 ?_;intro b)|fail))
 rename Nat=>b6
 refine WK_keep rfl ?_
 refine WK_seq ?_
 first|refine .k2 ?_|fail
 repeat'((fail_if_success (show WK _ _ _ _ _ _ _ _));(first|exact .nil|refine .k0 ?_|refine .k1 ?_|refine .r1 ?_ ?_|fail))
 refine WK_keep rfl ?_
 have hlow:decide ((l:Int)≤3)=decide (l≤3):=by simp;omega
 refine WK_join (fun rg σ'=>∃ most0:Nat,most0=(if l≤3∧see 1 wNot L=true then 2 else 7)∧σ'=(6,b6,.cells x.row)::(4,b4,.cells [iv 0,sv ⟨#[]⟩,sv ⟨#[]⟩,sv ⟨#[]⟩,iv 0,iv 0,sv ⟨#[]⟩,.v (.slice none 0 0),iv 0,iv 0,iv 0,.v (.slice none 0 0)])::(1000,b1,.cells (rdC L1 i++rest))::τ∧
  rg=[(0,.lp 1000 b1 0),(1,iv l),(4,.lp 4 b4 0),(6,.lp 6 b6 0),(7,iv (most0:Nat))]) ?_ ?_
 ·repeat'(first|exact .nil|refine .k0 ?_|refine .k1 ?_|refine .k2 ?_|refine .k9 ?_|(refine .cd ?_ ?_<;>(intro hc;skip))|refine .r1 ?_ ?_|fail)
  ·rw[hlow]at hc
   exact JoinW.intro rfl ⟨2,by rw[if_pos (by simpa using hc)],rfl,rfl⟩
  ·rw[hlow]at hc
   exact JoinW.intro rfl ⟨7,by rw[if_neg (by simpa using hc)],rfl,rfl⟩
 rintro _ _ ⟨most0,hm0,rfl,rfl⟩
 rw[← hm0]
 repeat'(first|exact .nil|refine .k1 ?_|refine .k2 ?_|refine .r1 ?_ ?_|fail)
 refine VX_rdq rfl (rd_rank L1 hL1 i) rfl rfl rfl .nil (by simp(decide:=true)only[upt_hd,upt_ne]) ?_
 repeat'((fail_if_success (show WK _ _ _ _ (.loop _) _ _ _));(first|exact .nil|refine .k0 ?_|refine .k1 ?_|refine .k6 ?_|refine .r1 ?_ ?_|fail))
 clear hm0 hlow
 refine WK_loop (fun m rg σ'=>∃ (x':Ex) (L':List Tok) (most:Nat),Gd L'∧8 * L'.length+7≤n∧m=L'.length∧opsP n l most0 i x L1=opsP n l most i x' L'∧σ'=(6,b6,.cells x'.row)::(4,b4,.cells [iv 0,sv ⟨#[]⟩,sv ⟨#[]⟩,sv ⟨#[]⟩,iv 0,iv 0,sv ⟨#[]⟩,.v (.slice none 0 0),iv 0,iv 0,iv 0,.v (.slice none 0 0)])::(1000,b1,.cells (rdC L' i++rest))::τ∧
  rg=[(0,.lp 1000 b1 0),(1,iv l),(4,.lp 4 b4 0),(6,.lp 6 b6 0),(7,iv (most:Nat)),(8,iv (rankP L':Nat))]) L1.length rfl ⟨_,_,Zr,Zs,x,L1,most0,hL1,by omega,rfl,rfl,rfl,rfl⟩ ?_
 rintro m _ _ ⟨x',L',most,hL',hn',hm,he,rfl,rfl⟩
 rw[he]
 have hp:=hL'.pos
 unfold rdC
 repeat'((fail_if_success (show WK _ _ _ _ (.mreg _ _) _ _ _));(first|exact .nil|refine .k0 ?_|refine .k1 ?_|refine .k2 ?_|refine .k4 ?_|refine .k6 ?_|refine .k7 ?_|refine .k8 ?_|refine .k9 ?_|(refine .cd ?_ ?_<;>(intro hc;skip))|refine .r1 ?_ ?_|refine .t1 ?_ ?_ ?_|refine .t3 ?_ ?_ ?_|refine .r8 ?_ ?_|fail))
 any_goals omega
 all_goals(try simp only[BL]at *)
 ·have hg:rankP L'≥l∧rankP L'≠0∧rankP L'≤most:=by omega
  have ht:=hL'.tail (rank_kind L' hg.2.1)
  have hr6:=rank_le L'
  have hb:=ih.bin (rankP L'+1) i L'.tail ht.1 (by omega)
  have e1:iv ((rankP L'+1:Nat):Int)=iv (IntKind.i64.wrap ((rankP L':Int)+1)):=by rw[i64w (by omega)];rfl
  rw[e1]at hb
  rw[ops_go hL'.e hn' hg]
  refine VX_st (cs':=[.sl false 3 ((L'.drop 1).map Tok.cells),.v (.bool i)]++rest) rfl rfl rfl rfl rfl ⟨rfl,by simp⟩ .nil ?_
  simp(decide:=true)only[upt_hd,upt_ne,List.drop_one]
  repeat'((fail_if_success (show WK _ _ _ _ (.mreg _ _) _ _ _));(first|refine .k0 ?_|refine .k1 ?_|fail))
  refine WK_mregC [1000] 56 rfl rfl rfl rfl ?_
  repeat'(first|exact .nil|refine .k0 ?_|refine .k1 ?_|refine .r1 ?_ ?_|fail)
  refine VY_rdc (L:=L'.tail) (ins:=i) rfl rfl hb rfl rfl rfl .nil ?_ (fun _ _ h=>FK_pan h) (fun _=>Zs) (fun y L2 hr2 hL2=> ?_)
  ·exact fun p c h=>by rw[h];rfl
  have hp2:=((posE n).bin (rankP L'+1) i L'.tail ht.1.e).ok y L2 hr2
  rw[hr2,PR.bind_ok]
  simp(decide:=true)only[upt_hd,upt_ne,hd_getD]
  repeat'((fail_if_success (show WK _ _ _ _ _ _ _ _));(first|exact .nil|refine .k0 ?_|refine .k1 ?_|refine .r1 ?_ ?_|fail))
  ·exact Nat.le_of_ble_eq_true rfl
  refine WK_stw (.here (l':=(binE (hd L').text x' y).row) (.cons (.refl _) (.cons (.refl _) (.cons (.refl _) (.cons (.refl _) (.cons (.refl _) (.cons (.refl _) (.cons (.refl _) (.cons .nil (.cons (.refl _) (.cons (.refl _) (.cons (.refl _) (.cons Wk_two .nil)))))))))))) (.refl _)) ?_
  have hsz:=List.length_tail (l:=L')
  repeat'(first|exact .nil|refine .k0 ?_|refine .k1 ?_|refine .k2 ?_|refine .k9 ?_|(refine .cd ?_ ?_<;>(intro hc;skip))|refine .r1 ?_ ?_|fail)
  all_goals
   refine VX_rdq rfl (rd_rank L2 hL2 i) rfl rfl rfl .nil (by simp(decide:=true)only[upt_hd,upt_ne]) ?_
   repeat'(first|exact .nil|refine .k0 ?_|refine .k1 ?_|refine .k2 ?_|refine .r1 ?_ ?_|fail)
  ·have h4:rankP L'=4:=by have:=of_decide_eq_true hc;omega
   exact⟨L2.length,by omega,_,_,Zr,Zs,binE (hd L').text x' y,L2,3,hL2,by omega,rfl,by rw[if_pos h4],rfl,rfl⟩
  ·have h4:¬rankP L'=4:=by have:=of_decide_eq_false hc;omega
   exact⟨L2.length,by omega,_,_,Zr,Zs,binE (hd L').text x' y,L2,rankP L',hL2,by omega,rfl,by rw[if_neg h4],rfl,rfl⟩
 ·exact rd_ret (a:=x') (ops_stop hn' (by omega)) hL' (.refl _)
end Go.Proofs.YtbihckigennlhaaGreatDoor
