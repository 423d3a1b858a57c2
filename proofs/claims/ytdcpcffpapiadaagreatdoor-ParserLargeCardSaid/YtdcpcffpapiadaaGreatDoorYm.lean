/- Module, walked. -/
import Derived.Test.YtdcpcffpapiadaaGreatDoorZs
import Derived.Test.YtdcpcffpapiadaaGreatDoorWi
import Derived.Test.YtdcpcffpapiadaaGreatDoorZf
import Derived.Test.YtdcpcffpapiadaaGreatDoorZa
import Derived.Test.YtdcpcffpapiadaaGreatDoorTj
import Derived.Test.YtdcpcffpapiadaaGreatDoorSxB
import Derived.Test.YtdcpcffpapiadaaGreatDoorRows
import Derived.Lib.LaidU8
import Derived.LaidLaws
import Derived.Shelf.Vars
import Derived.HandedShaped
set_option linter.unusedSimpArgs false
set_option linter.unusedVariables false
set_option linter.unusedSectionVars false
set_option maxRecDepth 100000
set_option maxHeartbeats 8000000
namespace Go.Proofs.YtdcpcffpapiadaaGreatDoor
open Go.Sx Go.Proofs
def StgR(r:List AV):Prop:=(∃ j,∃ h:j<r.length,∃ s,r[j]= .v (.string s))∧∀ x∈r,Stg x
theorem stg_sl{nn:Bool}{e:Nat}{rows:List (List AV)}(h:∀ r∈rows,StgR r):Stg (.sl nn e rows):=
 .sl _ _ _ (fun i hi=>(h _ (List.getElem_mem hi)).1) fun i hi j hj=>(h _ (List.getElem_mem hi)).2 _ (List.getElem_mem hj)
theorem stg_own{e t b u c:Nat}{rows:List (List AV)}(h:∀ r∈rows,StgR r):Stg (.own e t b u c rows):=
 .own _ _ _ _ _ _ (fun i hi=>(h _ (List.getElem_mem hi)).1) fun i hi j hj=>(h _ (List.getElem_mem hi)).2 _ (List.getElem_mem hj)
theorem stg_map{α:Type}{f:α→List AV}{l:List α}(h:∀ x,StgR (f x)):∀ r∈l.map f,StgR r:=fun r hr=>by
 obtain⟨x,_,rfl⟩:=List.mem_map.1 hr;exact h x
theorem stg_tok(t:Tok):StgR t.cells:=⟨⟨1,Nat.le_of_ble_eq_true rfl,_,rfl⟩,fun x hx=>by
 simp only[Tok.cells,List.mem_cons,List.not_mem_nil,or_false]at hx
 rcases hx with rfl|rfl|rfl<;>exact .v _⟩
theorem stg_fac(f:Fac):StgR f.cells:=⟨⟨0,Nat.le_of_ble_eq_true rfl,_,rfl⟩,fun x hx=>by
 simp only[Fac.cells,List.mem_cons,List.not_mem_nil,or_false]at hx
 rcases hx with rfl|rfl<;>exact .v _⟩
theorem stg_fld(f:Fld):StgR f.cells:=⟨⟨0,Nat.le_of_ble_eq_true rfl,_,rfl⟩,fun x hx=>by
 simp only[Fld.cells,List.mem_cons,List.not_mem_nil,or_false]at hx
 rcases hx with rfl|rfl|rfl|rfl<;>first|exact .v _|exact stg_sl (stg_map stg_fac)⟩
theorem stg_tab(f:Tab):StgR f.cells:=⟨⟨0,Nat.le_of_ble_eq_true rfl,_,rfl⟩,fun x hx=>by
 simp only[Tab.cells,List.mem_cons,List.not_mem_nil,or_false]at hx
 rcases hx with rfl|rfl|rfl|rfl<;>first|exact .v _|exact stg_sl (stg_map stg_fld)⟩
theorem stg_ex:∀ (n:Nat) (x:Ex),x.size≤n→StgR x.cells
 |0,x,h=>by have:=Ex.size_pos x;omega
 |n+1,x,h=>by
  rw[congrFun Ex.cells_row x]
  refine⟨⟨1,Nat.le_of_ble_eq_true rfl,_,rfl⟩,fun y hy=> ?_⟩
  have ha:∀ r∈x.args.map Ex.cells,StgR r:=fun r hr=>by
   obtain⟨z,hz,rfl⟩:=List.mem_map.1 hr
   have h1:=Ex.sizeL_mem hz
   have h2:=Ex.size_args x
   exact stg_ex n z (by omega)
  simp only[Ex.row,List.mem_cons,List.not_mem_nil,or_false]at hy
  rcases hy with rfl|rfl|rfl|rfl|rfl|rfl|rfl|rfl|rfl|rfl|rfl|rfl<;>first|exact .v _|exact stg_sl (stg_map stg_fac)|exact stg_sl ha
theorem stg_fea(f:Fea):StgR f.cells:=⟨⟨0,Nat.le_of_ble_eq_true rfl,_,rfl⟩,fun x hx=>by
 have ha:∀ r∈f.body.args.map Ex.cells,StgR r:=stg_map fun x=>stg_ex _ x (Nat.le_refl _)
 simp only[Fea.cells,List.mem_cons,List.not_mem_nil,or_false]at hx
 rcases hx with rfl|rfl|rfl|rfl|rfl|rfl|rfl|rfl|rfl|rfl|rfl|rfl|rfl|rfl|rfl|rfl|rfl|rfl<;>first|exact .v _|exact stg_sl (stg_map stg_fac)|exact stg_sl ha⟩
theorem stg_rd(L:List Tok){b:Value}:Stg (.sl false 3 (L.map Tok.cells))∧Stg (.v b):=⟨stg_sl (stg_map stg_tok),.v _⟩
theorem stg_col{e t:Nat}{rows:List (List AV)}{x:AV}{τ:Store}(h:ColS e t rows x τ)(hr:∀ r∈rows,StgR r):Stg x∧∀ y∈τ,StgB y.2.2:=by
 rcases h with⟨_,rfl,rfl⟩|⟨_,b,u,c,rfl,rfl⟩
 ·exact⟨.v _,fun y hy=>by cases hy⟩
 ·exact⟨stg_own hr,fun y hy=>by rw[List.mem_singleton]at hy;subst hy;trivial⟩
def x9:AC:=match a9 with
 | .seq _ (.keep _ (.seq _ (.keep _ (.seq a _))))=>a
 |a=>a
def loop9:AC:=match a9 with
 | .seq _ (.keep _ (.seq _ (.keep _ (.seq _ (.keep _ (.seq _ (.keep _ (.seq b _))))))))=>b
 |a=>a
def tail9:AC:=match a9 with
 | .seq _ (.keep _ (.seq _ (.keep _ (.seq _ (.keep _ (.seq _ (.keep _ (.seq _ (.keep _ b)))))))))=>b
 |a=>a
def moduleV(s:Bs):AV:= .tup [.agg [.sl false 4 ((moduleP s).1.tables.map Tab.cells),.sl false 18 ((moduleP s).1.features.map Fea.cells)],.sl false 2 ((moduleP s).2.1.map Prb.cells),iv (moduleP s).2.2]
structure ModI(s:Bs)(L:List Tok)(m:Mdl)(bad:List Prb):Prop where
 g:Gd L
 r:modL L.length L m bad=modL N0 (toksL s).1 mdl0 (toksL s).2
 n:m.tables.length+m.features.length+bad.length+L.length≤30000
theorem erase9:a9.erase= .seq (.reg s9_0) (.seq (.reg s9_1) (.seq x9.erase (.seq (.reg s9_4) (.seq loop9.erase tail9.erase)))):=rfl
theorem filt_bad(badV:AV)(bm b0:Nat)(l:List (List AV)):filtO [2,3,5,6] [(2,.lp 2 bm 0),(3,badV),(5,.sl false 3 l),(6,.lp 1000 b0 0)]=some [(2,.lp 2 bm 0),(3,badV),(5,.sl false 3 l),(6,.lp 1000 b0 0)]:=by
 cases badV with
 |v x=>cases x<;>rfl
 |_=>rfl
theorem Wk.relab{e t t' b u c:Nat}{rows:List (List AV)}:Wk (.own e t b u c rows) (.own e t' b u c rows):=fun M v h=>by
 obtain⟨off,cap,cs,rfl,hr,h4,h5,h6,h8⟩:=h.of_own
 exact R.mk_own hr h4 h5 h6 h8
theorem WK_perm{P:Program}[Glob P]{N:Nat}{cfg:Nat→Nat}{Q:Exit→Regs→Store→Prop}{a:AC}{k:List Fr}{rg:Regs}{σ σ':Store}(hp:σ.Perm σ')(h:WK P N cfg Q a k rg σ'):WK P N cfg Q a k rg σ:=by
 refine⟨⟨rfl,?_⟩⟩
 intro cd hcd M w0 a w hI hR hN hD
 exact h.h.h cd hcd M w0 a w (hI.perm hp) hR hN hD
theorem perm_tb{α:Type}(a:α)(b l1 l2 l0:List α):(a::(b++(l1++l2++l0))).Perm (a::(l1++l2++(b++l0))):=
 .cons _ (List.perm_append_comm_assoc b (l1++l2) l0)
def Item2(b:Nat)(τ0 τb:Store)(m:Mdl)(x1 x2:AV)(τ1 τ2:Store)(r:PR Itm)(x:Res)(σ':Store):Prop:=match r with
 | .ok a L'=>∃ y1 y2 υ1 υ2,ModS (addI m a) y1 y2 υ1 υ2∧Gd L'∧x= .ret (.agg [iv 0,iv 0])∧σ'=(1000,b,.cells (rdC L' false++[y1,y2]))::(τb++(υ1++υ2++τ0))
 | .err p c=>x= .ret (.agg [iv p,iv c])∧∃ L' i',σ'=(1000,b,.cells (rdC L' i'++[x1,x2]))::(τb++(τ1++τ2++τ0))
theorem item_ok2(hN:NormOk)(hD:DecOk)(b0:Nat)(m:Mdl)(hm:m.tables.length≤100000∧m.features.length≤100000)(x1 x2:AV)(τ0 τb τ1 τ2:Store)(hS:ModS m x1 x2 τ1 τ2)(L:List Tok)(hL:Gd L):
  Sx.Spec Tryz.prog 25 [.lp 1000 b0 0] ((1000,b0,.cells (rdC L false++[x1,x2]))::(τb++(τ1++τ2++τ0))) (Item2 b0 τ0 τb m x1 x2 τ1 τ2 (itemP L)):=by
 refine Spec.permA (Spec.permR (item_ok hN hD b0 m hm x1 x2 (τb++τ0) τ1 τ2 hS L hL) fun x σ' h=> ?_) (perm_tb _ _ _ _ _)
 cases hit:itemP L with
 |ok a L'=>rw[hit]at h;obtain⟨y1,y2,υ1,υ2,h1,h2,h3,rfl⟩:=h;exact⟨_,(perm_tb _ _ _ _ _).symm,y1,y2,υ1,υ2,h1,h2,h3,rfl⟩
 |err p c=>rw[hit]at h;obtain⟨h1,L',i',rfl⟩:=h;exact⟨_,(perm_tb _ _ _ _ _).symm,h1,L',i',rfl⟩
theorem pos_item:Pos 1 itemP:=(Sm.item (alike_pre default [])).pos
theorem skip_step{x:Int}{L:List Tok}(h:1<L.length)(hc:(hd L).at_<x∨(hd L).kind≠5∨(hd L).text≠ch 59):skipTo x L=skipTo x L.tail:=by
 match L,h with
 |t::u::L,_=>exact if_pos hc
theorem skip_stop{x:Int}{L:List Tok}(h:¬(1<L.length∧((hd L).at_<x∨(hd L).kind≠5∨(hd L).text≠ch 59))):skipTo x L=L:=by
 match L with
 |[]=>rfl
 |[t]=>rfl
 |t::u::L=>exact if_neg fun hc=>h ⟨by simp,hc⟩
theorem ModI.ok{s:Bs}{L L':List Tok}{m:Mdl}{bad:List Prb}{a:Itm}(h:ModI s L m bad)(hi:itemP L= .ok a L')(hL':Gd L')(hk:(hd L).kind≠6):ModI s L' (addI m a) bad∧L'.length<L.length:=by
 obtain⟨h1,h2,h3⟩:=(pos_item L h.g.e).ok a L' hi
 have hr:=h.r
 have hn:=h.n
 obtain⟨k,hk2⟩:∃ k,L.length=k+1:=⟨L.length-1,by omega⟩
 rw[hk2,modL,if_neg hk,hi]at hr
 refine⟨⟨hL',?_,?_⟩,by omega⟩
 ·rw[modL_fuel L'.length k L' _ _ h2 (Nat.le_refl _) (by omega)];exact hr
 ·cases a with
  |tab t=>simp only[addI,List.length_append,List.length_singleton];omega
  |fea t=>simp only[addI,List.length_append,List.length_singleton];omega
theorem ModI.err{s:Bs}{L:List Tok}{m:Mdl}{bad:List Prb}{p c:Int}(h:ModI s L m bad)(hi:itemP L= .err p c)(hk:(hd L).kind≠6):c≠0∧ModI s (behindP p L) m (bad++[⟨p,c⟩])∧(behindP p L).length<L.length:=by
 obtain⟨_,h2⟩:=(pos_item L h.g.e).err p c hi
 obtain⟨h3,h4⟩:=behind_len (x:=p) h.g.e hk
 have hr:=h.r
 have hn:=h.n
 have hsuf:behindP p L <:+ L:=by
  obtain⟨g1,g2⟩:=skipTo_suf p L h.g.e.ne
  unfold behindP
  split
  ·exact(List.tail_suffix _).trans g1
  ·exact g1
 obtain⟨k,hk2⟩:∃ k,L.length=k+1:=⟨L.length-1,by omega⟩
 rw[hk2,modL,if_neg hk,hi]at hr
 refine⟨h2,⟨⟨h3,fun t ht=>h.g.t t (hsuf.subset ht),by have:=h.g.n;omega⟩,?_,by simp only[List.length_append,List.length_singleton];omega⟩,h4⟩
 rw[modL_fuel (behindP p L).length k _ _ _ h3 (Nat.le_refl _) (by omega)];exact hr
theorem ModI.fin{s:Bs}{L:List Tok}{m:Mdl}{bad:List Prb}(h:ModI s L m bad)(hk:(hd L).kind=6):(m,bad)=modL N0 (toksL s).1 mdl0 (toksL s).2:=by
 have hr:=h.r
 have hp:=h.g.pos
 obtain⟨k,hk2⟩:∃ k,L.length=k+1:=⟨L.length-1,by omega⟩
 rw[hk2,modL,if_pos hk]at hr
 exact hr
theorem module_loop(hN:NormOk)(hD:DecOk)(s:Bs)(b0 bm:Nat)(L:List Tok)(m:Mdl)(bad:List Prb)(hI:ModI s L m bad)(badV x1 x2:AV)(τ1 τ2 τb:Store)(hS:ModS m x1 x2 τ1 τ2)(hB:ColU 2 12 (bad.map Prb.cells) badV τb)(Q:Exit→Regs→Store→Prop)
  (hQ:∀ (m:Mdl) (bad:List Prb) (badV x1 x2 y1 y2:AV) (τ1 τ2 τb:Store),(m,bad)=modL N0 (toksL s).1 mdl0 (toksL s).2→ModS m x1 x2 τ1 τ2→ColU 2 12 (bad.map Prb.cells) badV τb→Stg y1∧Stg y2→bad.length≤30000→
   Q .normal [(2,.lp 2 bm 0),(3,badV),(6,.lp 1000 b0 0)] ((1000,b0,.cells ([y1,y2]++[x1,x2]))::(τb++(τ1++τ2++[(2,bm,.cells [nilS,nilS])])))):
  WK Tryz.prog c9.N (fun _=>0) (fun e rg σ'=>Q e (filt [2,3,6] rg) σ') loop9 [] [(2,.lp 2 bm 0),(3,badV),(5,.sl false 3 (L.map Tok.cells)),(6,.lp 1000 b0 0)]
   ((1000,b0,.cells ([nilS,.v (.bool false)]++[x1,x2]))::(τb++(τ1++τ2++[(2,bm,.cells [nilS,nilS])]))):=by
 show WK _ _ _ _ (.block 0 _) _ _ _
 refine WK_block ?_
 refine WK_loop (fun q rg σ'=>∃ (L:List Tok) (m:Mdl) (bad:List Prb) (badV x1 x2 y1 y2:AV) (τ1 τ2 τb:Store),ModI s L m bad∧q=L.length∧ModS m x1 x2 τ1 τ2∧ColU 2 12 (bad.map Prb.cells) badV τb∧(Stg y1∧Stg y2)∧
  σ'.Perm ((1000,b0,.cells ([y1,y2]++[x1,x2]))::(τb++(τ1++τ2++[(2,bm,.cells [nilS,nilS])])))∧rg=[(2,.lp 2 bm 0),(3,badV),(5,.sl false 3 (L.map Tok.cells)),(6,.lp 1000 b0 0)]) L.length (filt_bad _ _ _ _) ⟨_,_,Zr,Zs,L,m,bad,badV,x1,x2,nilS,.v (.bool false),τ1,τ2,τb,hI,rfl,hS,hB,⟨.v _,.v _⟩,.refl _,rfl⟩ ?_
 rintro q _ _ ⟨L,m,bad,badV,x1,x2,y1,y2,τ1,τ2,τb,hI,hq,hS,hB,hY,hP,rfl⟩
 refine WK_perm hP ?_
 have hL:=hI.g
 have hp:=hL.pos
 have hz:m.tables.length≤100000∧m.features.length≤100000:=by have:=hI.n;omega
 rcases hB with⟨h0,rfl,rfl⟩|⟨h0,b2,u2,c2,rfl,rfl,hu2⟩
 all_goals
  repeat'(first|exact .nil|refine .k0 ?_|refine .k1 ?_|refine .k2 ?_|refine .k3 ?_|refine .k6 ?_|refine .k8 ?_|refine .k9 ?_|(refine .cd ?_ ?_<;>(intro hc;skip))|refine .r1 ?_ ?_|refine .t1 ?_ ?_ ?_|refine .r8 ?_ ?_|fail)
 all_goals try any_goals exact fun _=>⟨Int.le_refl _,hp⟩
 ·have hk6:(hd L).kind≠6:=by rw[← hd_getD];simpa using hc
  refine VX_st (cs':=rdC L false++[x1,x2]) rfl rfl rfl rfl rfl ⟨rfl,by simp⟩ .nil ?_
  rw[upt_hd]
  obtain rfl:bad=[]:=List.map_eq_nil_iff.1 h0
  repeat'(first|exact .nil|refine .k0 ?_|refine .k1 ?_|refine .k2 ?_|refine .r1 ?_ ?_|fail)
  refine VX_spec rfl (item_ok2 hN hD b0 m hz x1 x2 [(2,bm,.cells [nilS,nilS])] [] τ1 τ2 hS L hL) .nil (fun x σ' hR=> ?_) (fun ch σ' hR=> ?_)
  ·cases hit:itemP L with
   |ok a L'=>
    rw[hit]at hR
    obtain⟨z1,z2,υ1,υ2,hS',hL',e1,rfl⟩:=hR
    cases e1
    repeat'(first|exact .nil|refine .k0 ?_|refine .k1 ?_|refine .k2 ?_|refine .k6 ?_|refine .k8 ?_|refine .k9 ?_|(refine .cd ?_ ?_<;>(intro hc;skip))|refine .r1 ?_ ?_|(refine .l1 ?_;intro b)|refine .u1 ?_ ?_ ?_ (fun b u c=> ?_)|fail)
    all_goals try any_goals exact absurd hc (by decide)
    have hnx:=hI.ok hit hL' hk6
    exact⟨L'.length,by rw[hq];exact hnx.2,_,_,Zr,Zs,L',addI m a,[],nilS,z1,z2,_,_,υ1,υ2,[],hnx.1,rfl,hS',.inl ⟨rfl,rfl,rfl⟩,stg_rd L',.refl _,rfl⟩
   |err pp cc=>
    rw[hit]at hR
    obtain⟨e1,L',i',rfl⟩:=hR
    cases e1
    have hnx1:=(hI.err hit hk6).1
    have hnx2:=(hI.err hit hk6).2
    clear hQ hP
    repeat'((fail_if_success (show VX _ _ (⟨_,.append _ _ _ _ _ _,_⟩::_) _ _ _ _));(first|exact .nil|refine .k0 ?_|refine .k1 ?_|refine .k2 ?_|refine .k8 ?_|refine .k9 ?_|(refine .cd ?_ ?_<;>(intro hc;skip))|refine .r1 ?_ ?_|(refine .l1 ?_;intro b)|fail))
    ·exact absurd (of_decide_eq_true hc) hnx1
    ·exact Nat.le_of_ble_eq_true rfl
    refine VX_app0u rfl rfl ?_ ?_ ?_ (fun b9 u9 c9 hu9=> ?_)
    ·exact .nil
    ·exact List.cons_ne_nil _ _
    ·exact Nat.le_of_ble_eq_true rfl
    have hrw:(([]:List Prb)).map Prb.cells++[[iv pp,iv cc]]=(([]:List Prb)++[(⟨pp,cc⟩:Prb)]).map Prb.cells:=by rw[List.map_append];rfl
    repeat'((fail_if_success (show WK _ _ _ _ (.loop _) _ _ _));(first|exact .nil|refine .k0 ?_|refine .k1 ?_|refine .k6 ?_|refine .r1 ?_ ?_|fail))
    refine WK_loop (fun q rg σ'=>∃ L2:List Tok,L2.length≤20000∧q=L2.length∧skipTo pp L2=skipTo pp L∧σ'=(48,b9,.tail u9 c9)::(7,b,.cells [iv pp,iv cc])::(1000,b0,.cells (rdC L' i'++[x1,x2]))::([]++(τ1++τ2++[(2,bm,.cells [nilS,nilS])]))∧
     rg=[(2,.lp 2 bm 0),(3,.own 2 48 b9 u9 c9 [[iv pp,iv cc]]),(5,.sl false 3 (L2.map Tok.cells)),(6,.lp 1000 b0 0),(7,.lp 7 b 0)]) L.length rfl ⟨_,_,Zr,Zs,L,hL.n,rfl,rfl,rfl,rfl⟩ ?_
    rintro q3 _ _ ⟨L2,hn2,hq3,hsk,rfl,rfl⟩
    repeat'(first|exact .nil|refine .k0 ?_|refine .k1 ?_|refine .k2 ?_|refine .k3 ?_|refine .k4 ?_|refine .k5 ?_|refine .k6 ?_|refine .k8 ?_|refine .k9 ?_|(refine .cd ?_ ?_<;>(intro hc;skip))|refine .r1 ?_ ?_|(refine .m2 ?_ ?_;intro hlen)|refine .t1 ?_ ?_ ?_|refine .t3 ?_ ?_ ?_|refine .r2 ?_ ?_|fail)
    all_goals(try simp only[BL]at *)
    ·omega
    ·have hc2:=hc.2
     simp only[hd_getD]at hc2
     exact⟨L2.tail.length,by rw[List.length_tail];omega,_,_,Zr,Zs,L2.tail,by rw[List.length_tail];omega,rfl,by rw[← skip_step (by omega) (by rcases hc2 with(h|h)|h;exact .inl h;exact .inr (.inl h);exact .inr (.inr h))];exact hsk,rfl,by rw[List.drop_one]⟩
    ·omega
    ·rename_i hc2
     simp only[hd_getD]at hc2
     have hst:=skip_stop (x:=pp) (L:=L2) (by rintro⟨h1,h2⟩;rcases hc2 with h3|⟨⟨h3,h4⟩,h5⟩;omega;rcases h2 with h2|h2|h2;omega;exact h2 h4;exact h2 h5)
     have hbeh:behindP pp L=List.drop 1 L2:=by unfold behindP;rw[← hsk,hst,if_pos (by omega),List.drop_one]
     exact⟨(behindP pp L).length,by rw[hq];exact hnx2.2,_,(12,b9,.tail u9 c9)::(1000,b0,.cells (rdC L' i'++[x1,x2]))::([]++(τ1++τ2++[(2,bm,.cells [nilS,nilS])])),(.cons (.refl _) (.cons Wk.relab (.cons (.ofeq (by rw[hbeh])) (.cons (.refl _) .nil)))),(.same (.cons (.refl _))),behindP pp L,m,([]:List Prb)++[(⟨pp,cc⟩:Prb)],.own 2 12 b9 u9 c9 ((([]:List Prb)++[(⟨pp,cc⟩:Prb)]).map Prb.cells),x1,x2,_,_,τ1,τ2,[(12,b9,.tail u9 c9)],hnx2.1,rfl,hS,.inr ⟨by simp,b9,u9,c9,rfl,rfl,by rw[hu9];rfl⟩,stg_rd L',.swap _ _ _,rfl⟩
    ·have hst:=skip_stop (x:=pp) (L:=L2) (by rintro⟨h1,h2⟩;omega)
     have hbeh:behindP pp L=L2:=by unfold behindP;rw[← hsk,hst,if_neg (by omega)]
     exact⟨(behindP pp L).length,by rw[hq];exact hnx2.2,_,(12,b9,.tail u9 c9)::(1000,b0,.cells (rdC L' i'++[x1,x2]))::([]++(τ1++τ2++[(2,bm,.cells [nilS,nilS])])),(.cons (.refl _) (.cons Wk.relab (.cons (.ofeq (by rw[hbeh])) (.cons (.refl _) .nil)))),(.same (.cons (.refl _))),behindP pp L,m,([]:List Prb)++[(⟨pp,cc⟩:Prb)],.own 2 12 b9 u9 c9 ((([]:List Prb)++[(⟨pp,cc⟩:Prb)]).map Prb.cells),x1,x2,_,_,τ1,τ2,[(12,b9,.tail u9 c9)],hnx2.1,rfl,hS,.inr ⟨by simp,b9,u9,c9,rfl,rfl,by rw[hu9];rfl⟩,stg_rd L',.swap _ _ _,rfl⟩
    all_goals(intro h;omega)
  ·cases hit:itemP L with
   |ok a L'=>rw[hit]at hR;obtain⟨_,_,_,_,_,_,e1,_⟩:=hR;cases e1
   |err p c=>rw[hit]at hR;obtain⟨e1,_⟩:=hR;cases e1
 ·have hk6:(hd L).kind=6:=by rw[← hd_getD];simpa using hc
  refine hQ m bad _ x1 x2 y1 y2 τ1 τ2 [] (hI.fin hk6) hS (.inl ⟨h0,rfl,rfl⟩) hY (by have:=hI.n;omega)
 ·have hk6:(hd L).kind≠6:=by rw[← hd_getD];simpa using hc
  refine VX_st (cs':=rdC L false++[x1,x2]) rfl rfl rfl rfl rfl ⟨rfl,by simp⟩ .nil ?_
  rw[upt_hd]
  repeat'(first|exact .nil|refine .k0 ?_|refine .k1 ?_|refine .k2 ?_|refine .r1 ?_ ?_|fail)
  refine VX_spec rfl (item_ok2 hN hD b0 m hz x1 x2 [(2,bm,.cells [nilS,nilS])] [(12,b2,.tail u2 c2)] τ1 τ2 hS L hL) .nil (fun x σ' hR=> ?_) (fun ch σ' hR=> ?_)
  ·cases hit:itemP L with
   |ok a L'=>
    rw[hit]at hR
    obtain⟨z1,z2,υ1,υ2,hS',hL',e1,rfl⟩:=hR
    cases e1
    repeat'(first|exact .nil|refine .k0 ?_|refine .k1 ?_|refine .k2 ?_|refine .k6 ?_|refine .k8 ?_|refine .k9 ?_|(refine .cd ?_ ?_<;>(intro hc;skip))|refine .r1 ?_ ?_|(refine .l1 ?_;intro b)|refine .u2 ?_ ?_ ?_ (fun b u c=> ?_)|(show List.all _ _=true;rfl)|fail)
    all_goals try any_goals exact absurd hc (by decide)
    have hnx:=hI.ok hit hL' hk6
    exact⟨L'.length,by rw[hq];exact hnx.2,_,_,Zr,Zs,L',addI m a,bad,.own 2 12 b2 u2 c2 (bad.map Prb.cells),z1,z2,_,_,υ1,υ2,[(12,b2,.tail u2 c2)],hnx.1,rfl,hS',.inr ⟨h0,b2,u2,c2,rfl,rfl,hu2⟩,stg_rd L',.refl _,rfl⟩
   |err pp cc=>
    rw[hit]at hR
    obtain⟨e1,L',i',rfl⟩:=hR
    cases e1
    have hnx1:=(hI.err hit hk6).1
    have hnx2:=(hI.err hit hk6).2
    clear hQ hP
    repeat'((fail_if_success (show VX _ _ (⟨_,.append _ _ _ _ _ _,_⟩::_) _ _ _ _));(first|exact .nil|refine .k0 ?_|refine .k1 ?_|refine .k2 ?_|refine .k8 ?_|refine .k9 ?_|(refine .cd ?_ ?_<;>(intro hc;skip))|refine .r1 ?_ ?_|(refine .l1 ?_;intro b)|fail))
    ·exact absurd (of_decide_eq_true hc) hnx1
    ·exact Nat.le_of_ble_eq_true rfl
    refine VX_appu rfl rfl rfl ?_ ?_ ?_ (fun b9 u9 c9 hu9=> ?_)
    ·exact .nil
    ·show(_+1) * 16≤_;rw[List.length_map];have:=hI.n;omega
    ·rfl
    have hrw:bad.map Prb.cells++[[iv pp,iv cc]]=(bad++[(⟨pp,cc⟩:Prb)]).map Prb.cells:=by rw[List.map_append];rfl
    repeat'((fail_if_success (show WK _ _ _ _ (.loop _) _ _ _));(first|exact .nil|refine .k0 ?_|refine .k1 ?_|refine .k6 ?_|refine .r1 ?_ ?_|fail))
    refine WK_loop (fun q rg σ'=>∃ L2:List Tok,L2.length≤20000∧q=L2.length∧skipTo pp L2=skipTo pp L∧σ'=(7,b,.cells [iv pp,iv cc])::(1000,b0,.cells (rdC L' i'++[x1,x2]))::([(12,b9,.tail u9 c9)]++(τ1++τ2++[(2,bm,.cells [nilS,nilS])]))∧
     rg=[(2,.lp 2 bm 0),(3,.own 2 12 b9 u9 c9 (bad.map Prb.cells++[[iv pp,iv cc]])),(5,.sl false 3 (L2.map Tok.cells)),(6,.lp 1000 b0 0),(7,.lp 7 b 0)]) L.length rfl ⟨_,_,Zr,Zs,L,hL.n,rfl,rfl,rfl,rfl⟩ ?_
    rintro q3 _ _ ⟨L2,hn2,hq3,hsk,rfl,rfl⟩
    repeat'(first|exact .nil|refine .k0 ?_|refine .k1 ?_|refine .k2 ?_|refine .k3 ?_|refine .k4 ?_|refine .k5 ?_|refine .k6 ?_|refine .k8 ?_|refine .k9 ?_|(refine .cd ?_ ?_<;>(intro hc;skip))|refine .r1 ?_ ?_|(refine .m2 ?_ ?_;intro hlen)|refine .t1 ?_ ?_ ?_|refine .t3 ?_ ?_ ?_|refine .r2 ?_ ?_|fail)
    all_goals(try simp only[BL]at *)
    ·omega
    ·have hc2:=hc.2
     simp only[hd_getD]at hc2
     exact⟨L2.tail.length,by rw[List.length_tail];omega,_,_,Zr,Zs,L2.tail,by rw[List.length_tail];omega,rfl,by rw[← skip_step (by omega) (by rcases hc2 with(h|h)|h;exact .inl h;exact .inr (.inl h);exact .inr (.inr h))];exact hsk,rfl,by rw[List.drop_one]⟩
    ·omega
    ·rename_i hc2
     simp only[hd_getD]at hc2
     have hst:=skip_stop (x:=pp) (L:=L2) (by rintro⟨h1,h2⟩;rcases hc2 with h3|⟨⟨h3,h4⟩,h5⟩;omega;rcases h2 with h2|h2|h2;omega;exact h2 h4;exact h2 h5)
     have hbeh:behindP pp L=List.drop 1 L2:=by unfold behindP;rw[← hsk,hst,if_pos (by omega),List.drop_one]
     exact⟨(behindP pp L).length,by rw[hq];exact hnx2.2,_,(1000,b0,.cells (rdC L' i'++[x1,x2]))::([(12,b9,.tail u9 c9)]++(τ1++τ2++[(2,bm,.cells [nilS,nilS])])),(.cons (.refl _) (.cons (.ofeq (by rw[hrw])) (.cons (.ofeq (by rw[hbeh])) (.cons (.refl _) .nil)))),(.cons (.refl _)),behindP pp L,m,bad++[(⟨pp,cc⟩:Prb)],.own 2 12 b9 u9 c9 ((bad++[(⟨pp,cc⟩:Prb)]).map Prb.cells),x1,x2,_,_,τ1,τ2,[(12,b9,.tail u9 c9)],hnx2.1,rfl,hS,.inr ⟨by simp,b9,u9,c9,rfl,rfl,by rw[hu9 hu2];simp⟩,stg_rd L',.refl _,rfl⟩
    ·have hst:=skip_stop (x:=pp) (L:=L2) (by rintro⟨h1,h2⟩;omega)
     have hbeh:behindP pp L=L2:=by unfold behindP;rw[← hsk,hst,if_neg (by omega)]
     exact⟨(behindP pp L).length,by rw[hq];exact hnx2.2,_,(1000,b0,.cells (rdC L' i'++[x1,x2]))::([(12,b9,.tail u9 c9)]++(τ1++τ2++[(2,bm,.cells [nilS,nilS])])),(.cons (.refl _) (.cons (.ofeq (by rw[hrw])) (.cons (.ofeq (by rw[hbeh])) (.cons (.refl _) .nil)))),(.cons (.refl _)),behindP pp L,m,bad++[(⟨pp,cc⟩:Prb)],.own 2 12 b9 u9 c9 ((bad++[(⟨pp,cc⟩:Prb)]).map Prb.cells),x1,x2,_,_,τ1,τ2,[(12,b9,.tail u9 c9)],hnx2.1,rfl,hS,.inr ⟨by simp,b9,u9,c9,rfl,rfl,by rw[hu9 hu2];simp⟩,stg_rd L',.refl _,rfl⟩
    all_goals(intro h;omega)
  ·cases hit:itemP L with
   |ok a L'=>rw[hit]at hR;obtain⟨_,_,_,_,_,_,e1,_⟩:=hR;cases e1
   |err p c=>rw[hit]at hR;obtain⟨e1,_⟩:=hR;cases e1
 ·have hk6:(hd L).kind=6:=by rw[← hd_getD];simpa using hc
  refine hQ m bad _ x1 x2 y1 y2 τ1 τ2 [(12,b2,.tail u2 c2)] (hI.fin hk6) hS (.inr ⟨h0,b2,u2,c2,rfl,rfl,hu2⟩) hY (by have:=hI.n;omega)
theorem module_long(src:List UInt8)(hl:16384<src.length)(nn:Bool):Pure Tryz.prog 9 [.sl nn 1 (src.map byteRow)] (moduleV src):=by
 refine Pure.runk (fun _=>0) Tryz.func9 comp9 era9 (Nat.le_of_ble_eq_true rfl) fun σ=> ?_
 repeat'(first|exact .nil|refine .k0 ?_|refine .k1 ?_|refine .k2 ?_|refine .r1 ?_ ?_|(refine .l1 ?_;intro b)|fail)
 have f1:(!decide ((2:Int)=0))=true:=by decide
 refine VX_spec rfl (tokens_long src hl nn _) .nil (fun x σ' hR=> ?_) (fun ch σ' hR=>absurd hR.1 (by nofun))
 obtain⟨e,rfl⟩:=hR
 cases e
 repeat'(first|exact .nil|refine .k0 ?_|refine .k1 ?_|refine .k2 ?_|refine .k4 ?_|refine .k7 ?_|(refine .cd ?_ ?_<;>(intro hc;first|exact kf hc (by assumption)|skip))|refine .r1 ?_ ?_|refine .r8 ?_ ?_|fail)
 unfold moduleV moduleP
 rw[if_pos hl]
 exact⟨.tup (.cons (.agg (.cons .nil (.cons .nil .nil))) (.cons .nil (.cons (.refl _) .nil))),Zs⟩
theorem moduleV_eq{s:Bs}(hl:¬16384<s.length){m:Mdl}{bad:List Prb}(h:(m,bad)=modL N0 (toksL s).1 mdl0 (toksL s).2):moduleV s= .tup [.agg [.sl false 4 (m.tables.map Tab.cells),.sl false 18 (m.features.map Fea.cells)],.sl false 2 (((sortP bad).take 32).map Prb.cells),iv 0]:=by
 unfold moduleV moduleP
 rw[if_neg hl]
 simp only
 rw[show(⟨[],[]⟩:Mdl)=mdl0 from rfl,← h]
theorem col_wk{e t:Nat}{rows:List (List AV)}{x:AV}{τ:Store}(h:ColS e t rows x τ):Wk x (.sl false e rows):=by
 rcases h with⟨h0,rfl,rfl⟩|⟨_,b,u,c,rfl,rfl⟩
 ·rw[h0];exact .nil
 ·exact .own false
theorem perm_box{α:Type}(a e:α)(l1 l2 l0:List α):(a::((l1++l2++[e])++l0)).Perm (e::a::(l1++l2++l0)):=by
 refine(List.Perm.cons a ?_).trans (.swap _ _ _)
 rw[List.append_assoc]
 exact List.perm_middle
theorem take32_rows(l:List Prb):List.drop ((none:Option Int).getD 0).toNat (List.take ((some (if(true:Bool)=true then if(32:Int)<(l.length:Int)then 32 else(l.length:Int)else if(32:Int)>(l.length:Int)then 32 else(l.length:Int))).getD ((l.map Prb.cells).length:Int)).toNat (l.map Prb.cells))=(l.take 32).map Prb.cells:=by
 simp only[Option.getD_none,Option.getD_some,if_true,Int.toNat_zero,List.drop_zero,List.map_take]
 split
 ·rfl
 ·rename_i h
  rw[Int.toNat_natCast,List.take_of_length_le (by simp),List.take_of_length_le (by simp;omega)]
theorem module_tail(src:List UInt8)(hl:¬16384<src.length)(m:Mdl)(bad:List Prb)(hm:(m,bad)=modL N0 (toksL src).1 mdl0 (toksL src).2)(hb:bad.length≤30000)(badV x1 x2 y1 y2:AV)(τ1 τ2 τb σ:Store)(hS:ModS m x1 x2 τ1 τ2)
  (hC:ColU 2 12 (bad.map Prb.cells) badV τb) (hY:Stg y1∧Stg y2) (b0 bm:Nat):
  SWT c9.N σ tail9.erase (pureQ c9.res (moduleV src) σ) [(2,.lp 2 bm 0),(3,badV),(6,.lp 1000 b0 0)] ((1000,b0,.cells ([y1,y2]++[x1,x2]))::(τb++(τ1++τ2++[(2,bm,.cells [nilS,nilS])]))):=by
 rw[moduleV_eq hl hm]
 obtain⟨g1,g2⟩:=stg_col hS.t (stg_map stg_tab)
 obtain⟨g3,g4⟩:=stg_col hS.f (stg_map stg_fea)
 have w1:=col_wk hS.t
 have w2:=col_wk hS.f
 rcases hC with⟨h0,rfl,rfl⟩|⟨h0,b2,u2,c2,rfl,rfl,hu2⟩
 ·obtain rfl:bad=[]:=List.map_eq_nil_iff.1 h0
  refine SWT.done ?_
  refine SW_k (a:=tail9) (cfg:=fun _=>0) ?_
  refine WK_perm (σ':=(2,bm,.cells [nilS,nilS])::(1000,b0,.cells [y1,y2,x1,x2])::(τ1++τ2++σ)) (perm_box _ _ _ _ _) ?_
  obtain⟨ht,hf⟩:=hS
  rcases ht with⟨_,rfl,rfl⟩|⟨_,b7,u7,c7,rfl,rfl⟩<;>rcases hf with⟨_,rfl,rfl⟩|⟨_,b8,u8,c8,rfl,rfl⟩
  all_goals
   show WK _ _ _ _ (.seq (.reg _) (.keep _ _)) _ _ _
   repeat'((fail_if_success (show WK _ _ _ _ (.seq (.mreg _ _) _) _ _ _));(first|exact .nil|refine .k0 ?_|refine .k1 ?_|refine .k2 ?_|refine .r1 ?_ ?_|refine .an rfl (by intro hob;exact sort0_ok) ?_ ?_|fail))
   refine WK_wk (rg':=[(2,.lp 2 bm 0),(3,.sl false 2 []),(6,.lp 1000 b0 0)]) ?_ (.cons (.refl _) (.cons .nil (.cons (.refl _) .nil))) (.refl _)
   repeat'(first|exact .nil|refine .k0 ?_|refine .k1 ?_|refine .k3 ?_|refine .k7 ?_|refine .r1 ?_ ?_|refine .r3 ?_ ?_|refine .r8 ?_ ?_|fail)
  all_goals first|(refine⟨rfl,Int.le_refl _,?_⟩;simp only[Option.getD_none,Option.getD_some,List.length_map,List.length_nil,if_true];split<;>omega)|exact⟨.tup (.cons (.agg (.cons w1 (.cons w2 .nil))) (.cons (.refl _) (.cons (.refl _) .nil))),Zs⟩|fail
 ·have hn:bad≠[]:=fun e=>h0 (by rw[e];rfl)
  obtain rfl:u2=bad.length * 2:=by rw[hu2,List.length_map]
  refine SWT.thaw (ks:=[(2,.lp 2 bm 0),(6,.lp 1000 b0 0)]) (τ:=(1000,b0,.cells ([y1,y2]++[x1,x2]))::(τ1++τ2++[(2,bm,.cells [nilS,nilS])])) bad 3 12 b2 c2 12 hn rfl (.swap _ _ _) ?_ ?_ fun cap post hc1 hc2=> ?_
  ·intro e he
   rcases List.mem_cons.1 he with rfl|he
   ·intro i hi
    match i,hi with
    |0,_=>exact hY.1
    |1,_=>exact hY.2
    |2,_=>exact g1
    |3,_=>exact g3
   ·rcases List.mem_append.1 he with he|he
    ·rcases List.mem_append.1 he with he|he
     ·exact g2 e he
     ·exact g4 e he
    ·rw[List.mem_singleton]at he
     subst he
     intro i hi
     match i,hi with
     |0,_=>exact .v _
     |1,_=>exact .v _
  ·intro q hq
   simp only[List.mem_cons,List.not_mem_nil,or_false]at hq
   rcases hq with rfl|rfl
   ·exact⟨rfl,.lp _ _ _⟩
   ·exact⟨rfl,.lp _ _ _⟩
  ·have hsl:(sortP bad).length=bad.length:=sortP_length bad
   refine SW_k (a:=tail9) (cfg:=fun _=>0) ?_
   show WK _ _ _ _ (.seq (.reg _) (.keep _ _)) _ _ _
   repeat'(first|exact .nil|refine .k1 ?_|refine .k2 ?_|refine .r1 ?_ ?_|fail)
   refine VX_spec rfl (sort_spec bad hn (by omega) b2 cap post _) .nil (fun x σ' hR=> ?_) (fun ch σ' hR=> ?_)
   ·obtain⟨e1,rfl⟩:=hR
    cases e1
    repeat'((fail_if_success (show WK _ _ _ _ (.seq (.mreg _ _) _) _ _ _));(first|refine .k0 ?_|refine .k1 ?_|fail))
    refine WK_frzn (rows:=(sortP bad).map Prb.cells) (e:=2) .here ?_ ?_ ⟨hc1,hc2⟩ (.same (.m (.same .nil))) ?_
    ·intro r hr;obtain⟨p,_,rfl⟩:=List.mem_map.1 hr;rfl
    ·rw[List.length_map,hsl]
    refine WK_perm (σ':=(2,bm,.cells [nilS,nilS])::(1000,b0,.cells [y1,y2,x1,x2])::(τ1++τ2++σ)) (perm_box _ _ _ _ _) ?_
    obtain⟨ht,hf⟩:=hS
    rcases ht with⟨_,rfl,rfl⟩|⟨_,b7,u7,c7,rfl,rfl⟩<;>rcases hf with⟨_,rfl,rfl⟩|⟨_,b8,u8,c8,rfl,rfl⟩
    all_goals
     repeat'(first|exact .nil|refine .k0 ?_|refine .k1 ?_|refine .k3 ?_|refine .k7 ?_|refine .r1 ?_ ?_|refine .r2 ?_ ?_|refine .r8 ?_ ?_|fail)
    all_goals first|(refine⟨rfl,Int.le_refl _,?_⟩;simp only[Option.getD_none,Option.getD_some,List.length_map,List.length_nil,if_true];split<;>omega)|exact⟨.tup (.cons (.agg (.cons w1 (.cons w2 .nil))) (.cons (.ofeq (congrArg (AV.sl false 2) (take32_rows _))) (.cons (.refl _) .nil))),Zs⟩
   ·obtain⟨e1,_⟩:=hR;cases e1
theorem module_mid(hG:GreatOk)(hA:AnyOk)(hN:NormOk)(hD:DecOk)(src:List UInt8)(hl:¬16384<src.length)(nn:Bool):Pure Tryz.prog 9 [.sl nn 1 (src.map byteRow)] (moduleV src):=by
 refine Pure.runk (fun _=>0) Tryz.func9 comp9 era9 (Nat.le_of_ble_eq_true rfl) fun σ=> ?_
 refine⟨⟨rfl,?_⟩⟩
 show SW _ _ (a9.erase) _ _ _
 rw[erase9]
 have hGd:Gd (toksL src).1:=toks_gd (by omega)
 have hp:=hGd.pos
 refine SWT.start (SWT.seq (by intro l h;cases h) ?_)
 refine SW_k (a:= .reg s9_0) (cfg:=fun _=>0) ?_
 repeat'(first|exact .nil|refine .k1 ?_|refine .k2 ?_|refine .k3 ?_|refine .r1 ?_ ?_|(refine .l1 ?_;intro b)|fail)
 rename Nat=>bm
 refine⟨rfl,SWT.filt (rg':=[(0,.sl nn 1 (src.map byteRow)),(2,.lp 2 bm 0)]) [0,2] rfl (SWT.seq (by intro l h;cases h) ?_)⟩
 refine SW_k (a:= .reg s9_1) (cfg:=fun _=>0) ?_
 repeat'(first|exact .nil|refine .k2 ?_|refine .r1 ?_ ?_|fail)
 have g1:(!decide ((0:Int)=0))=false:=by decide
 have g3:decide (((toksL src).1.length:Int)=0)=false:=decide_eq_false (by omega)
 have hI:ModI src (toksL src).1 mdl0 (toksL src).2:=by
  refine⟨hGd,modL_fuel _ _ _ _ _ hGd.e (Nat.le_refl _) (by have:=hGd.n;show _≤1000000;omega),?_⟩
  have h1:(toksL src).2.length≤32:=by unfold toksL;simp only[List.length_take];omega
  have h2:=hGd.n
  show 0+0+_+_≤_;omega
 have key:∀ (badV:AV) (τb:Store),ColU 2 12 ((toksL src).2.map Prb.cells) badV τb→SWT c9.N σ (.seq x9.erase (.seq (.reg s9_4) (.seq loop9.erase tail9.erase))) (pureQ c9.res (moduleV src) σ) [(2,.lp 2 bm 0),(3,badV),(4,iv 0),(5,.sl false 3 ((toksL src).1.map Tok.cells))] (τb++[(2,bm,.cells [nilS,nilS])]):=by
  intro badV τb hC
  refine SWT.seq (fun l h=>nomatch (show(SC.seq _ _:SC)= .dreg l from h)) ?_
  have key2:SWT c9.N σ (.seq (.reg s9_4) (.seq loop9.erase tail9.erase)) (pureQ c9.res (moduleV src) σ) [(2,.lp 2 bm 0),(3,badV),(5,.sl false 3 ((toksL src).1.map Tok.cells))] (τb++[(2,bm,.cells [nilS,nilS])]):=by
   refine SWT.seq (by intro l h;cases h) ?_
   refine SW_k (a:= .reg s9_4) (cfg:=fun _=>0) ?_
   repeat'(first|exact .nil|refine .k1 ?_|refine .k2 ?_|refine .k3 ?_|refine .r1 ?_ ?_|(refine .m1 ?_ ?_;intro b)|fail)
   rename Nat=>b0
   refine⟨rfl,SWT.filt (rg':=[(2,.lp 2 bm 0),(3,badV),(5,.sl false 3 ((toksL src).1.map Tok.cells)),(6,.lp 24 b0 0)]) [2,3,5,6] rfl (SWT.wk (rg':=[(2,.lp 2 bm 0),(3,badV),(5,.sl false 3 ((toksL src).1.map Tok.cells)),(6,.lp 1000 b0 0)]) (σ2:=(1000,b0,.cells [nilS,.v (.bool false),nilS,nilS])::(τb++[(2,bm,.cells [nilS,nilS])])) (.cons (.refl _) (.cons (.refl _) (.cons (.refl _) (.cons .lp .nil)))) (.same (.refl _)) ?_)⟩
   refine SWT.seq (fun l h=>nomatch (show(SC.block _ _:SC)= .dreg l from h)) ?_
   have hlp:=module_loop hN hD src b0 bm _ mdl0 _ hI badV nilS nilS [] [] τb ⟨.inl ⟨rfl,rfl,rfl⟩,.inl ⟨rfl,rfl,rfl⟩⟩ hC (fun e rg σ'=>e= .normal∧SWT c9.N σ tail9.erase (pureQ c9.res (moduleV src) σ) rg σ')
    fun m bad badV x1 x2 y1 y2 τ1 τ2 τb h1 h2 h3 h4 h5=>⟨rfl,module_tail src hl m bad h1 h5 badV x1 x2 y1 y2 τ1 τ2 τb σ h2 h3 h4 b0 bm⟩
   exact(SW_k hlp).mono fun e rg σ' h=>⟨h.1,SWT.filt [2,3,6] rfl h.2⟩
  rcases hC with⟨h0,rfl,rfl⟩|⟨h0,b2,u2,c2,rfl,rfl,_⟩
  all_goals
   refine SW_k (a:=x9) (cfg:=fun _=>0) ?_
   show WK _ _ _ _ (.seq (.reg _) (.keep _ _)) _ _ _
   repeat'(first|exact .nil|refine .k0 ?_|refine .k1 ?_|refine .k2 ?_|refine .k3 ?_|refine .k9 ?_|(refine .cd ?_ ?_<;>(intro hc;first|exact kt hc (by assumption)|skip))|refine .r1 ?_ ?_|(refine .m2 ?_ ?_;intro hlen)|fail)
  all_goals exact⟨rfl,SWT.filt [2,3,5] rfl key2⟩
 refine VX_spec rfl (tokens_ok hG hA src (by omega) nn _) .nil (fun x σ' hR=> ?_) (fun ch σ' hR=> ?_)
 ·obtain⟨badV,τb,hC,e,rfl⟩:=hR
  cases e
  have hk:=key badV τb hC
  rcases hC with⟨h0,rfl,rfl⟩|⟨h0,b2,u2,c2,rfl,rfl,_⟩
  all_goals
   repeat'(first|exact .nil|refine .k1 ?_|refine .k3 ?_|refine .r1 ?_ ?_|fail)
   exact⟨rfl,SWT.filt [2,3,4,5] rfl hk⟩
 ·obtain⟨_,_,_,e,_⟩:=hR;cases e
theorem module_ok(hG:GreatOk)(hA:AnyOk)(hN:NormOk)(hD:DecOk)(src:List UInt8)(nn:Bool):Pure Tryz.prog 9 [.sl nn 1 (src.map byteRow)] (moduleV src):=by
 by_cases hl:16384<src.length
 ·exact module_long src hl nn
 ·exact module_mid hG hA hN hD src hl nn
theorem exprA(s:List UInt8)(nn:Bool):Pure Tryz.prog 10 [.sl nn 1 (s.map byteRow)] (exprV s):=exprS_ok greatOk anyOk normOk decOk s nn fun h=>toks_gd h
theorem typeA(s:List UInt8)(nn:Bool):Pure Tryz.prog 11 [.sl nn 1 (s.map byteRow)] (typeV s):=typeS_ok greatOk anyOk normOk s nn fun h=>toks_gd h
theorem moduleA(s:List UInt8)(nn:Bool):Pure Tryz.prog 9 [.sl nn 1 (s.map byteRow)] (moduleV s):=module_ok greatOk anyOk normOk decOk s nn
def useX(s:Str):Ex:= .mk 3 ⟨#[]⟩ s ⟨#[]⟩ v0 [] 0 w0 []
def wholeX(n:Int):Ex:= .mk 1 ⟨#[]⟩ ⟨#[]⟩ ⟨#[]⟩ ⟨2,n,⟨#[]⟩⟩ [] 0 w0 []
def twoX(op:Str)(a b:Ex):Ex:= .mk 7 op ⟨#[]⟩ ⟨#[]⟩ v0 [] 0 w0 [a,b]
def yesX:Ex:= .mk 1 ⟨#[]⟩ ⟨#[]⟩ ⟨#[]⟩ ⟨1,1,⟨#[]⟩⟩ [] 0 w0 []
def srcA:List UInt8:=[49,32,43,32,50,32,42,32,97]
def srcB:List UInt8:=[97,32,100,101,102,97,117,108,116,32,98,32,100,101,102,97,117,108,116,32,49,46,53]
def srcC:List UInt8:=[99,111,117,110,116,40,116,44,32,97,108,108,32,119,104,101,114,101,32,120,41]
def srcD:List UInt8:=[97,32,60,32,98,32,60,32,99]
def srcE:List UInt8:=[99,111,117,110,116,40,116,44,32,97,108,108]
def srcF:List UInt8:=[49,32,91,109,94,57,93]
def srcG:List UInt8:=[100,101,99,32,91,101,117,114,32,42,32,104,94,45,49,93]
def srcH:List UInt8:=[116,97,98,108,101,32,116,32,111,102,32,117,32,123,32,110,58,32,105,110,116,32,125,59,32,116,97,98,108,101,32,120,32,111,102,59,32,102,101,97,116,117,114,101,32,102,32,111,102,32,117,58,32,105,110,116,32,61,32,49,59]
def xA:Ex:=twoX ⟨#[43]⟩ (wholeX 1) (twoX ⟨#[42]⟩ (wholeX 2) (useX ⟨#[97]⟩))
def xB:Ex:= .mk 9 ⟨#[]⟩ ⟨#[]⟩ ⟨#[]⟩ v0 [] 0 w0 [.mk 9 ⟨#[]⟩ ⟨#[]⟩ ⟨#[]⟩ v0 [] 0 w0 [useX ⟨#[97]⟩,useX ⟨#[98]⟩],.mk 1 ⟨#[]⟩ ⟨#[]⟩ ⟨#[]⟩ ⟨3,1500000,⟨#[]⟩⟩ [] 0 w0 []]
def xC:Ex:= .mk 5 ⟨#[99,111,117,110,116]⟩ ⟨#[]⟩ ⟨#[116]⟩ v0 [] 0 ⟨1,0⟩ [yesX,.mk 2 ⟨#[]⟩ ⟨#[120]⟩ ⟨#[]⟩ v0 [] 0 w0 []]
def tG:Ty:=⟨3,[⟨⟨#[101,117,114]⟩,1⟩,⟨⟨#[104]⟩, -1⟩],⟨#[]⟩⟩
theorem evA:exprV srcA= .tup [.agg xA.row,iv 0,iv 0]:=by kernel_rfl
theorem evB:exprV srcB= .tup [.agg xB.row,iv 0,iv 0]:=by kernel_rfl
theorem evC:exprV srcC= .tup [.agg xC.row,iv 0,iv 0]:=by kernel_rfl
theorem evD:exprV srcD= .tup [.agg zE,iv 6,iv 90]:=by kernel_rfl
theorem evE:exprV srcE= .tup [.agg zE,iv 12,iv 90]:=by kernel_rfl
theorem evF:exprV srcF= .tup [.agg zE,iv 2,iv 70]:=by kernel_rfl
theorem evG:typeV srcG= .tup [.agg tG.cells,iv 0,iv 0]:=by kernel_rfl
theorem use_ok(s:Str):Pure Tryz.prog 33 [sv s] (.agg (useX s).row):=by
 refine Pure.runk (fun _=>0) Tryz.func33 comp33 era33 (Nat.le_of_ble_eq_true rfl) fun σ=> ?_
 repeat'(first|exact .nil|refine .k0 ?_|refine .k1 ?_|refine .k2 ?_|refine .k7 ?_|refine .r1 ?_ ?_|(refine .l1 ?_;intro b)|fail)
 all_goals(try simp only[BL]at *)
 all_goals(show Sx.Fin _ _ _ _;exact Zw)
theorem whole_x(n:Int):Pure Tryz.prog 36 [iv n] (.agg (wholeX n).row):=by
 refine Pure.runk (fun _=>0) Tryz.func36 comp36 era36 (Nat.le_of_ble_eq_true rfl) fun σ=> ?_
 repeat'(first|exact .nil|refine .k0 ?_|refine .k1 ?_|refine .k2 ?_|refine .k7 ?_|refine .r1 ?_ ?_|(refine .l1 ?_;intro b)|fail)
 all_goals(try simp only[BL]at *)
 all_goals(show Sx.Fin _ _ _ _;exact Zw)
theorem yes_ok:Pure Tryz.prog 34 [] (.agg yesX.row):=by
 refine Pure.runk (fun _=>0) Tryz.func34 comp34 era34 (Nat.le_of_ble_eq_true rfl) fun σ=> ?_
 repeat'(first|exact .nil|refine .k0 ?_|refine .k1 ?_|refine .k2 ?_|refine .k7 ?_|refine .r1 ?_ ?_|(refine .l1 ?_;intro b)|fail)
 all_goals(try simp only[BL]at *)
 all_goals(show Sx.Fin _ _ _ _;exact Zw)
theorem two_ok(s:Str)(a b:Ex):Pure Tryz.prog 35 [sv s,.agg a.row,.agg b.row] (.agg (twoX s a b).row):=by
 refine Pure.runk (fun _=>0) Tryz.func35 comp35 era35 (Nat.le_of_ble_eq_true rfl) fun σ=> ?_
 repeat'(first|exact .nil|refine .k0 ?_|refine .k1 ?_|refine .k2 ?_|refine .k7 ?_|refine .r1 ?_ ?_|(refine .l1 ?_;intro b)|(refine .m1 ?_ ?_;intro b)|fail)
 all_goals(try simp only[BL]at *)
 ·exact Nat.le_of_ble_eq_true rfl
 refine Sx.Fin.wk Zs ?_
 repeat' first|exact .refl _|exact .nil|exact Wk_two|refine .cons ?_ ?_|refine .agg ?_|fail
def mH:Mdl:=⟨[⟨⟨#[116]⟩,⟨#[117]⟩,[⟨⟨#[110]⟩,⟨2,[],⟨#[]⟩⟩⟩],0⟩],[⟨⟨#[102]⟩,⟨#[117]⟩,⟨2,[],⟨#[]⟩⟩,wholeX 1,0⟩]⟩
theorem evH:moduleP srcH=(mH,[⟨35,90⟩],0):=by kernel_rfl
theorem evH2:moduleV srcH= .tup [.agg [.sl false 4 (mH.tables.map Tab.cells),.sl false 18 (mH.features.map Fea.cells)],.sl false 2 ([⟨35,90⟩].map Prb.cells),iv 0]:=by
 unfold moduleV
 rw[evH]
theorem cA:Pure Tryz.prog 10 [.sl true 1 [[.v (.int .u8 49)],[.v (.int .u8 32)],[.v (.int .u8 43)],[.v (.int .u8 32)],[.v (.int .u8 50)],[.v (.int .u8 32)],[.v (.int .u8 42)],[.v (.int .u8 32)],[.v (.int .u8 97)]]] (.tup [.agg xA.row,iv 0,iv 0]):=by
 have h:=exprA srcA true
 rw[evA,show srcA.map byteRow=[[.v (.int .u8 49)],[.v (.int .u8 32)],[.v (.int .u8 43)],[.v (.int .u8 32)],[.v (.int .u8 50)],[.v (.int .u8 32)],[.v (.int .u8 42)],[.v (.int .u8 32)],[.v (.int .u8 97)]] by kernel_rfl]at h
 exact h
theorem cB:Pure Tryz.prog 10 [.sl true 1 [[.v (.int .u8 97)],[.v (.int .u8 32)],[.v (.int .u8 100)],[.v (.int .u8 101)],[.v (.int .u8 102)],[.v (.int .u8 97)],[.v (.int .u8 117)],[.v (.int .u8 108)],[.v (.int .u8 116)],[.v (.int .u8 32)],[.v (.int .u8 98)],[.v (.int .u8 32)],[.v (.int .u8 100)],[.v (.int .u8 101)],[.v (.int .u8 102)],[.v (.int .u8 97)],[.v (.int .u8 117)],[.v (.int .u8 108)],[.v (.int .u8 116)],[.v (.int .u8 32)],[.v (.int .u8 49)],[.v (.int .u8 46)],[.v (.int .u8 53)]]] (.tup [.agg xB.row,iv 0,iv 0]):=by
 have h:=exprA srcB true
 rw[evB,show srcB.map byteRow=[[.v (.int .u8 97)],[.v (.int .u8 32)],[.v (.int .u8 100)],[.v (.int .u8 101)],[.v (.int .u8 102)],[.v (.int .u8 97)],[.v (.int .u8 117)],[.v (.int .u8 108)],[.v (.int .u8 116)],[.v (.int .u8 32)],[.v (.int .u8 98)],[.v (.int .u8 32)],[.v (.int .u8 100)],[.v (.int .u8 101)],[.v (.int .u8 102)],[.v (.int .u8 97)],[.v (.int .u8 117)],[.v (.int .u8 108)],[.v (.int .u8 116)],[.v (.int .u8 32)],[.v (.int .u8 49)],[.v (.int .u8 46)],[.v (.int .u8 53)]] by kernel_rfl]at h
 exact h
theorem cC:Pure Tryz.prog 10 [.sl true 1 [[.v (.int .u8 99)],[.v (.int .u8 111)],[.v (.int .u8 117)],[.v (.int .u8 110)],[.v (.int .u8 116)],[.v (.int .u8 40)],[.v (.int .u8 116)],[.v (.int .u8 44)],[.v (.int .u8 32)],[.v (.int .u8 97)],[.v (.int .u8 108)],[.v (.int .u8 108)],[.v (.int .u8 32)],[.v (.int .u8 119)],[.v (.int .u8 104)],[.v (.int .u8 101)],[.v (.int .u8 114)],[.v (.int .u8 101)],[.v (.int .u8 32)],[.v (.int .u8 120)],[.v (.int .u8 41)]]] (.tup [.agg xC.row,iv 0,iv 0]):=by
 have h:=exprA srcC true
 rw[evC,show srcC.map byteRow=[[.v (.int .u8 99)],[.v (.int .u8 111)],[.v (.int .u8 117)],[.v (.int .u8 110)],[.v (.int .u8 116)],[.v (.int .u8 40)],[.v (.int .u8 116)],[.v (.int .u8 44)],[.v (.int .u8 32)],[.v (.int .u8 97)],[.v (.int .u8 108)],[.v (.int .u8 108)],[.v (.int .u8 32)],[.v (.int .u8 119)],[.v (.int .u8 104)],[.v (.int .u8 101)],[.v (.int .u8 114)],[.v (.int .u8 101)],[.v (.int .u8 32)],[.v (.int .u8 120)],[.v (.int .u8 41)]] by kernel_rfl]at h
 exact h
theorem cD:Pure Tryz.prog 10 [.sl true 1 [[.v (.int .u8 97)],[.v (.int .u8 32)],[.v (.int .u8 60)],[.v (.int .u8 32)],[.v (.int .u8 98)],[.v (.int .u8 32)],[.v (.int .u8 60)],[.v (.int .u8 32)],[.v (.int .u8 99)]]] (.tup [.agg zE,iv 6,iv 90]):=by
 have h:=exprA srcD true
 rw[evD,show srcD.map byteRow=[[.v (.int .u8 97)],[.v (.int .u8 32)],[.v (.int .u8 60)],[.v (.int .u8 32)],[.v (.int .u8 98)],[.v (.int .u8 32)],[.v (.int .u8 60)],[.v (.int .u8 32)],[.v (.int .u8 99)]] by kernel_rfl]at h
 exact h
theorem cE:Pure Tryz.prog 10 [.sl true 1 [[.v (.int .u8 99)],[.v (.int .u8 111)],[.v (.int .u8 117)],[.v (.int .u8 110)],[.v (.int .u8 116)],[.v (.int .u8 40)],[.v (.int .u8 116)],[.v (.int .u8 44)],[.v (.int .u8 32)],[.v (.int .u8 97)],[.v (.int .u8 108)],[.v (.int .u8 108)]]] (.tup [.agg zE,iv 12,iv 90]):=by
 have h:=exprA srcE true
 rw[evE,show srcE.map byteRow=[[.v (.int .u8 99)],[.v (.int .u8 111)],[.v (.int .u8 117)],[.v (.int .u8 110)],[.v (.int .u8 116)],[.v (.int .u8 40)],[.v (.int .u8 116)],[.v (.int .u8 44)],[.v (.int .u8 32)],[.v (.int .u8 97)],[.v (.int .u8 108)],[.v (.int .u8 108)]] by kernel_rfl]at h
 exact h
theorem cF:Pure Tryz.prog 10 [.sl true 1 [[.v (.int .u8 49)],[.v (.int .u8 32)],[.v (.int .u8 91)],[.v (.int .u8 109)],[.v (.int .u8 94)],[.v (.int .u8 57)],[.v (.int .u8 93)]]] (.tup [.agg zE,iv 2,iv 70]):=by
 have h:=exprA srcF true
 rw[evF,show srcF.map byteRow=[[.v (.int .u8 49)],[.v (.int .u8 32)],[.v (.int .u8 91)],[.v (.int .u8 109)],[.v (.int .u8 94)],[.v (.int .u8 57)],[.v (.int .u8 93)]] by kernel_rfl]at h
 exact h
theorem cG:Pure Tryz.prog 11 [.sl true 1 [[.v (.int .u8 100)],[.v (.int .u8 101)],[.v (.int .u8 99)],[.v (.int .u8 32)],[.v (.int .u8 91)],[.v (.int .u8 101)],[.v (.int .u8 117)],[.v (.int .u8 114)],[.v (.int .u8 32)],[.v (.int .u8 42)],[.v (.int .u8 32)],[.v (.int .u8 104)],[.v (.int .u8 94)],[.v (.int .u8 45)],[.v (.int .u8 49)],[.v (.int .u8 93)]]] (.tup [.agg tG.cells,iv 0,iv 0]):=by
 have h:=typeA srcG true
 rw[evG,show srcG.map byteRow=[[.v (.int .u8 100)],[.v (.int .u8 101)],[.v (.int .u8 99)],[.v (.int .u8 32)],[.v (.int .u8 91)],[.v (.int .u8 101)],[.v (.int .u8 117)],[.v (.int .u8 114)],[.v (.int .u8 32)],[.v (.int .u8 42)],[.v (.int .u8 32)],[.v (.int .u8 104)],[.v (.int .u8 94)],[.v (.int .u8 45)],[.v (.int .u8 49)],[.v (.int .u8 93)]] by kernel_rfl]at h
 exact h
theorem cH:Pure Tryz.prog 9 [.sl true 1 [[.v (.int .u8 116)],[.v (.int .u8 97)],[.v (.int .u8 98)],[.v (.int .u8 108)],[.v (.int .u8 101)],[.v (.int .u8 32)],[.v (.int .u8 116)],[.v (.int .u8 32)],[.v (.int .u8 111)],[.v (.int .u8 102)],[.v (.int .u8 32)],[.v (.int .u8 117)],[.v (.int .u8 32)],[.v (.int .u8 123)],[.v (.int .u8 32)],[.v (.int .u8 110)],[.v (.int .u8 58)],[.v (.int .u8 32)],[.v (.int .u8 105)],[.v (.int .u8 110)],[.v (.int .u8 116)],[.v (.int .u8 32)],[.v (.int .u8 125)],[.v (.int .u8 59)],[.v (.int .u8 32)],[.v (.int .u8 116)],[.v (.int .u8 97)],[.v (.int .u8 98)],[.v (.int .u8 108)],[.v (.int .u8 101)],[.v (.int .u8 32)],[.v (.int .u8 120)],[.v (.int .u8 32)],[.v (.int .u8 111)],[.v (.int .u8 102)],[.v (.int .u8 59)],[.v (.int .u8 32)],[.v (.int .u8 102)],[.v (.int .u8 101)],[.v (.int .u8 97)],[.v (.int .u8 116)],[.v (.int .u8 117)],[.v (.int .u8 114)],[.v (.int .u8 101)],[.v (.int .u8 32)],[.v (.int .u8 102)],[.v (.int .u8 32)],[.v (.int .u8 111)],[.v (.int .u8 102)],[.v (.int .u8 32)],[.v (.int .u8 117)],[.v (.int .u8 58)],[.v (.int .u8 32)],[.v (.int .u8 105)],[.v (.int .u8 110)],[.v (.int .u8 116)],[.v (.int .u8 32)],[.v (.int .u8 61)],[.v (.int .u8 32)],[.v (.int .u8 49)],[.v (.int .u8 59)]]] (.tup [.agg [.sl false 4 (mH.tables.map Tab.cells),.sl false 18 (mH.features.map Fea.cells)],.sl false 2 ([⟨35,90⟩].map Prb.cells),iv 0]):=by
 have h:=moduleA srcH true
 rw[evH2,show srcH.map byteRow=[[.v (.int .u8 116)],[.v (.int .u8 97)],[.v (.int .u8 98)],[.v (.int .u8 108)],[.v (.int .u8 101)],[.v (.int .u8 32)],[.v (.int .u8 116)],[.v (.int .u8 32)],[.v (.int .u8 111)],[.v (.int .u8 102)],[.v (.int .u8 32)],[.v (.int .u8 117)],[.v (.int .u8 32)],[.v (.int .u8 123)],[.v (.int .u8 32)],[.v (.int .u8 110)],[.v (.int .u8 58)],[.v (.int .u8 32)],[.v (.int .u8 105)],[.v (.int .u8 110)],[.v (.int .u8 116)],[.v (.int .u8 32)],[.v (.int .u8 125)],[.v (.int .u8 59)],[.v (.int .u8 32)],[.v (.int .u8 116)],[.v (.int .u8 97)],[.v (.int .u8 98)],[.v (.int .u8 108)],[.v (.int .u8 101)],[.v (.int .u8 32)],[.v (.int .u8 120)],[.v (.int .u8 32)],[.v (.int .u8 111)],[.v (.int .u8 102)],[.v (.int .u8 59)],[.v (.int .u8 32)],[.v (.int .u8 102)],[.v (.int .u8 101)],[.v (.int .u8 97)],[.v (.int .u8 116)],[.v (.int .u8 117)],[.v (.int .u8 114)],[.v (.int .u8 101)],[.v (.int .u8 32)],[.v (.int .u8 102)],[.v (.int .u8 32)],[.v (.int .u8 111)],[.v (.int .u8 102)],[.v (.int .u8 32)],[.v (.int .u8 117)],[.v (.int .u8 58)],[.v (.int .u8 32)],[.v (.int .u8 105)],[.v (.int .u8 110)],[.v (.int .u8 116)],[.v (.int .u8 32)],[.v (.int .u8 61)],[.v (.int .u8 32)],[.v (.int .u8 49)],[.v (.int .u8 59)]] by kernel_rfl]at h
 exact h
end Go.Proofs.YtdcpcffpapiadaaGreatDoor
set_option maxHeartbeats 4000000
namespace Go.Sx
open Go.RowKit
section
variable {P:Program}[Glob P]
theorem freeze_heap(w:World)(b n k:Nat)(h:k≠b):(w.freeze ⟨b,n,none⟩ 1).heap[k]? =w.heap[k]? :=by
 have h':¬b=k:=fun e=>h e.symm
 simp only[World.freeze,Nat.one_ne_zero,if_false,Array.getElem?_modify,if_neg h']
theorem freeze_at{w:World}{b n:Nat}{cs:Array Value}{t:TypeId}(h:w.heap[b]? =some (.cells cs t (0,0))):∃ f,(w.freeze ⟨b,n,none⟩ 1).heap[b]? =some (.cells cs t f):=by
 simp only[World.freeze,Nat.one_ne_zero,if_false,Array.getElem?_modify,if_true,h,Option.map_some]
 exact⟨_,rfl⟩
theorem freeze_cell{w:World}{b n:Nat}{cs:Array Value}{t:TypeId}(h:w.heap[b]? =some (.cells cs t (0,0)))(k o:Nat):(w.freeze ⟨b,n,none⟩ 1).cell? ⟨k,o,none⟩=w.cell? ⟨k,o,none⟩:=by
 by_cases hk:k=b
 ·subst hk
  obtain⟨f,hf⟩:=freeze_at (n:=n) h
  simp only[World.cell?,hf,h]
 ·simp only[World.cell?,freeze_heap w b n k hk]
theorem OpS_cvown{t e ty:TypeId}{x:Operand}{d b u c:Nat}{rows:List (List AV)}{τ:Store}:
  OpS P (.convert t t x) ty [.sl e,.int .u8,.sl e,.int .u8] [x] [.own 1 d b u c rows] ((d,b,.tail u c)::τ) fun r σ'=>r= .sl true 1 rows∧σ'=τ:=fun hti M w0 w ρ hI hR=>by
 simp only[opInfo,List.cons.injEq,and_true]at hti
 have hs:=tiOf_sl hti.1
 have he:P.underlying e=some (.int .u8):=by
  have:=hti.2.1
  unfold elU at this
  rw[hs]at this
  exact tiOf_int this
 obtain⟨v,hu,hx⟩:=hR.un1
 simp only[List.map_cons,List.map_nil,List.cons.injEq,and_true]at hu
 obtain⟨off,cap,cs,rfl,hr,h4,h5,h6,h8⟩:=hx.of_own
 obtain⟨hg,hN,cur,ty0,hh,hcs,huc⟩:=hI.st _ List.mem_cons_self
 simp only at hg hN hh
 let w2:World:=w.freeze ⟨b,cur.size,none⟩ 1
 have hnd:=List.nodup_cons.1 hI.nd
 have hI2:Inv P M w0 τ w2:=by
  refine⟨hI.os,hI.tape,hI.output,?_,fun k hk=> ?_,fun b' o v h=> ?_,fun e' he'=> ?_,hnd.2,hI.gl,hI.gw,hI.bm⟩
  ·show _≤(w.freeze ⟨b,cur.size,none⟩ 1).heap.size
   simp only[World.freeze,Nat.one_ne_zero,if_false,Array.size_modify]
   exact hI.size
  ·rw[freeze_heap w b _ k (by omega)];exact hI.old k hk
  ·rw[freeze_cell hh];exact hI.imm b' o v h
  ·obtain⟨g1,g2⟩:=hI.st e' (List.mem_cons_of_mem _ he')
   refine⟨g1,?_⟩
   have hne:e'.2.1≠b:=fun h=>hnd.1 (List.mem_map.2 ⟨e',he',h⟩)
   have hk:=freeze_heap w b cur.size e'.2.1 hne
   cases hx:e'.2.2 with
   |cells l=>rw[hx]at g2;obtain⟨a1,cs,t,a2,a3⟩:=g2;exact⟨a1,cs,t,hk.trans a2,a3⟩
   |tail u c=>rw[hx]at g2;obtain⟨a1,cs,t,a2,a3⟩:=g2;exact⟨a1,cs,t,hk.trans a2,a3⟩
   |map es k=>rw[hx]at g2;obtain⟨a1,l,a2,a3⟩:=g2;exact⟨a1,l,hk.trans a2,a3⟩
 refine⟨.value (.slice (some ⟨b,off,none⟩) rows.length cap),w2,M,.sl true 1 rows,_,τ,?_,rfl,Mem.le.refl _,hI2,R.mk_sl hr h4 h5 true,rfl,rfl⟩
 have hsh:w.shape? b=some (ty0,cur.size):=by simp only[World.shape?,hh]
 simp only[execOp,hu,convert,Sem.run_bind,run_under hs,run_under he,Result.andThen_ok,markStringish]
 simp[Sem.run,Sem.bind,Bind.bind,Pure.pure,shape,freeze,hsh]
 rfl
variable {N:Nat}{cfg:Nat→Nat}{K:Regs→Store→Prop}{E:List PanicEntry→Store→Prop}{l:List CI}{xr:XR}{ps:List Prop}
theorem VX_cvown{t e ty:TypeId}{x:Operand}{d d0 b u c:Nat}{rows:List (List AV)}{τ:Store}(h:argO xr none [x]=some (none,[.own 1 d0 b u c rows],ps))(hps:OB ps)
  (k:VX P cfg l K E ((d,.s (.sl true 1 rows))::xr) τ):VX P cfg (⟨some d,.extq (.convert t t x) ty [.sl e,.int .u8,.sl e,.int .u8] [x],none⟩::l) K E xr ((d0,b,.tail u c)::τ):=by
 obtain⟨hc,he⟩:=argO_eq h
 refine VX_gen hc (fun hg=> ?_) (fun hg=> ?_)
 ·simp only[vcO,he hps hg]
  refine OpS_cvown.mono fun x σ' ⟨e1,e2⟩=> ?_
  subst e1 e2;exact k.h
 ·cases hg
def constsV:List Operand→Option (List AV)
 |[]=>some []
 | .const c::l=>(constsV l).map (AV.v c::·)
 |_::_=>none
theorem constsV_eq:∀ {xs:List Operand} {vs:List AV},constsV xs=some vs→∀ rg,evs rg xs=vs
 |[],vs,h,rg=>by cases h;rfl
 | .const c::l,vs,h,rg=>by
  unfold constsV at h
  rw[Option.map_eq_some_iff]at h
  obtain⟨w,h1,rfl⟩:=h
  have:=constsV_eq h1 rg
  simp only[evs,List.map_cons]at this ⊢
  rw[this];rfl
 | .tmp _::_,_,h,_=>by cases h
 | .global _::_,_,h,_=>by cases h
 | .func _::_,_,h,_=>by cases h
theorem VX_mkow{σ:Store}{t:TypeId}{d esz:Nat}{xs:List Operand}{vs:List AV}{rows:List (List AV)}(hc:cfg d=1)(he:0<esz)(hx:constsV xs=some vs)(hr:rowsOf esz vs=some rows)(hb:rows.length≤1000000)
  (k:∀ b,VX P cfg l K E ((d,.s (.own esz d b (rows.length * esz) (rows.length * esz) rows))::xr) ((d,b,.tail (rows.length * esz) (rows.length * esz))::σ)):VX P cfg (⟨some d,.mksl t esz xs,none⟩::l) K E xr σ:=by
 constructor
 simp only[vcX,vcG,vcO,constsV_eq hx,hr,Option.getD_some,hc]
 exact⟨hb,he,fun b=>(k b).h⟩
end
theorem WkL.get{xs ys:List AV}(h:WkL xs ys):xs.length=ys.length∧∀ j (h1:j<xs.length) (h2:j<ys.length),Wk xs[j] ys[j]:=by
 induction h with
 |nil=>exact⟨rfl,fun j h1=>absurd h1 (by simp)⟩
 |cons h t ih=>
  refine⟨by simp[ih.1],fun j h1 h2=> ?_⟩
  cases j with
  |zero=>exact h
  |succ j=>exact ih.2 j (by simpa using h1) (by simpa using h2)
inductive WkLL:List (List AV)→List (List AV)→Prop
 |nil:WkLL [] []
 |cons {x y:List AV} {xs ys:List (List AV)} (h:WkL x y) (t:WkLL xs ys):WkLL (x::xs) (y::ys)
theorem WkLL.get{xs ys:List (List AV)}(h:WkLL xs ys):xs.length=ys.length∧∀ j (h1:j<xs.length) (h2:j<ys.length),WkL xs[j] ys[j]:=by
 induction h with
 |nil=>exact⟨rfl,fun j h1=>absurd h1 (by simp)⟩
 |cons h t ih=>
  refine⟨by simp[ih.1],fun j h1 h2=> ?_⟩
  cases j with
  |zero=>exact h
  |succ j=>exact ih.2 j (by simpa using h1) (by simpa using h2)
theorem Wk.rows{nn:Bool}{n:Nat}{rows rows':List (List AV)}(h:WkLL rows rows'):Wk (.sl nn n rows) (.sl false n rows'):=fun M v hv=>by
 obtain⟨hl,hg⟩:=h.get
 cases hv with
 |nil _ _ a ha=>
  obtain rfl:rows'=[]:=List.eq_nil_of_length_eq_zero hl.symm
  exact .nil _ _ a (fun h=>nomatch h)
 |sl _ _ _ b off cap cs hsz hM hR hc hm=>
  rw[hl]
  refine .sl _ _ _ b off cap cs (fun i hi=> ?_) (fun k hk=>hM k (by rw[hl];exact hk)) (fun i hi j hj=> ?_) (by omega) hm
  ·have:=(hg i (by omega) hi).get.1
   rw[← this];exact hsz i (by omega)
  ·have hgi:=(hg i (by omega) hi).get
   have:=hR i (by omega) j (by rw[hgi.1];exact hj)
   exact hgi.2 j (by rw[hgi.1];exact hj) hj M _ this
end Go.Sx
set_option maxHeartbeats 8000000
namespace Go.Proofs.YtdcpcffpapiadaaGreatDoor
open Go.Sx Go.Proofs
theorem example_ok:Pure Tryz.prog 12 [] (.v (.bool true)):=by
 refine Pure.runk (fun d=>bif ([29,36,43,50,57,64,71,78]:List Nat).elem d then 1 else 0) Tryz.func12 comp12 era12 (Nat.le_of_ble_eq_true rfl) fun σ=> ?_
 repeat'(first|(refine VX_cvown rfl .nil ?_)|(refine VX_mkow rfl Nat.one_pos rfl rfl (Nat.le_of_ble_eq_true rfl) (fun b=> ?_))|(first|exact .nil|refine .k0 ?_|refine .k1 ?_|refine .k2 ?_|refine .k3 ?_|refine .k5 ?_|refine .k7 ?_|refine .k9 ?_|(refine .cd ?_ ?_<;>(intro hc;first|exact kt hc (by assumption)|skip))|refine .r1 ?_ ?_|(refine .l1 ?_;intro b)|(refine .m2 ?_ ?_;intro hlen)|refine .t1 ?_ ?_ ?_|refine .an rfl (by intro hob;first|exact cA|exact cB|exact cC|exact cD|exact cE|exact cF|exact cG|exact cH|exact use_ok _|exact whole_x _|exact yes_ok|exact two_ok _ (wholeX 2) (useX ⟨#[97]⟩)|exact two_ok _ (wholeX 1) (twoX ⟨#[42]⟩ (wholeX 2) (useX ⟨#[97]⟩))|exact sameX_t xA|(refine(sameX_t xB).wk ?_;(repeat' first|exact .refl _|exact .nil|exact .sl|refine .agg ?_|refine .cons ?_ ?_|refine .rows ?_);done)|(refine(sameX_t xC).wk ?_;(repeat' first|exact .refl _|exact .nil|refine .agg ?_|refine .cons ?_ ?_|refine .rows ?_);done)|(refine(sameType_t tG).wk ?_;(repeat' first|exact .refl _|exact .sl|refine .agg ?_|refine .cons ?_ ?_|fail);done)) ?_ ?_|fail))
 all_goals first|(exfalso;revert hc;decide)|exact Nat.le_of_ble_eq_true rfl|(intro _;exact Nat.le_of_ble_eq_true rfl)|(show Sx.Fin _ _ _ _;(refine Sx.Fin.wk Zs ?_;repeat' first|exact .refl _|fail))|skip
 ·intro _
  exact⟨Int.le_refl 0,Int.zero_lt_one⟩
 ·intro _
  exact⟨Int.le_refl 0,Int.zero_lt_one⟩
structure WrongI(w:Bs)(p:Int):Prop where
 len:w.length≤100
 pos:0≤p∧p<w.length
 lex:(lexL w.length 0 (-1) w).2=[]
 item:∀ A e,(lexL w.length 0 (-1) w).1=A++[e]→∀ B,B≠[]→(hd (A++B)).kind≠6∧itemP (A++B)= .err p 90∧behindP p (A++B)=B
theorem WrongI.of{w:Bs}{p:Int}{A:List Tok}(h1:w.length≤100)(h2:0≤p∧p<w.length)(h3:lexL w.length 0 (-1) w=(A++[⟨6,⟨#[]⟩,(w.length:Int)⟩],[]))(h4:∀ b B,(hd (A++b::B)).kind≠6∧itemP (A++b::B)= .err p 90∧behindP p (A++b::B)=b::B):WrongI w p:=by
 refine⟨h1,h2,by rw[h3],fun A' e he B hB=> ?_⟩
 rw[h3]at he
 obtain⟨e1,_⟩:=List.append_inj' he rfl
 subst e1
 cases B with
 |nil=>exact absurd rfl hB
 |cons b B=>exact h4 b B
theorem piece_par(s:Bs):pieceL (40::s)=(5,1,0):=by
 unfold pieceL
 simp only
 rw[if_neg (by decide),if_neg (by decide),if_neg (by decide),if_neg (by decide),if_neg (by decide),if_pos (by decide),if_neg (by rintro⟨_,h⟩;revert h;decide),if_pos (by decide)]
theorem lex_par(n:Nat)(s:Bs):lexL (n+1) 0 (-1) (40::s)=(⟨5,ch 40,0⟩::(lexL n 0 (-1) s).1.map (shT 1),(lexL n 0 (-1) s).2.map (shP 1)):=by
 rw[lex_step _ _ _ (by simp)]
 simp only[piece_par]
 rw[if_neg (by decide),if_neg (by decide),if_neg (by decide),if_pos (by decide)]
 have hsh:=lex_shift 1 (by omega) n 0 (-1) (-1) s (by omega) (.inl ⟨rfl,by omega⟩)
 simp only[List.drop_succ_cons,List.drop_zero]
 rw[show(0:Int)+((1:Nat):Int)=0+1 by omega,hsh]
 rfl
theorem end_only{A L:List Tok}{e:Tok}(hA:∀ x∈A,x.kind≠6)(hE:EndL L)(hs:L <:+ A++[e])(hk:(hd L).kind=6):L=[e]:=by
 obtain⟨Q,hQ⟩:=hs
 obtain⟨M,e',rfl,he'⟩:=hE
 have h1:Q++M++[e']=A++[e]:=by rw[← hQ];simp
 obtain⟨h2,h3⟩:=List.append_inj' h1 rfl
 cases h3
 cases M with
 |nil=>rfl
 |cons a M=>exact absurd hk (hA a (by rw[← h2];simp))
theorem piece_code:∀ u:Bs,(pieceL u).1= -1→(pieceL u).2.2≠0
 |[],_=>by decide
 |c::r,h=>by
  unfold pieceL at h ⊢
  simp only at h ⊢
  repeat' split at h
  all_goals first|(exfalso;revert h;simp only;omega)|skip
  all_goals simp_all
theorem lex_code:∀ (n:Nat) (at_ st:Int) (s:Bs),∀ b∈(lexL n at_ st s).2,b.code≠0
 |0,at_,st,s,b,hb=>by cases hb
 |n+1,at_,st,s,b,hb=>by
  by_cases hs:s=[]
  ·subst hs;rw[lex_nil]at hb;cases hb
  rw[lex_step _ _ _ hs]at hb
  have h1:=lex_code n (at_+1) at_ (s.drop 1) b
  have h2:=lex_code n (at_+(pieceL s).2.1) st (s.drop (pieceL s).2.1) b
  split at hb
  ·rename_i hk
   simp only at hb
   split at hb
   ·rcases List.mem_cons.1 hb with rfl|hb
    ·exact piece_code s hk
    ·exact h1 hb
   ·exact h1 hb
  split at hb
  ·rename_i hk
   rcases List.mem_cons.1 hb with rfl|hb
   ·exact hk
   ·exact h2 hb
  split at hb
  ·exact h2 hb
  split at hb
  ·exact h2 hb
  ·exact h2 hb
theorem wholeP_ok{x:Bs}{z:Ex}(h:(wholeP (exprP N0 false) z x).2.2=0):x.length≤16384∧(lexL x.length 0 (-1) x).2=[]∧∃ b L,wholeP (exprP N0 false) z x=(b,0,0)∧exprP N0 false (lexL x.length 0 (-1) x).1= .ok b L∧(hd L).kind=6:=by
 unfold wholeP at h ⊢
 by_cases hl:x.length>16384
 ·rw[if_pos hl]at h;cases h
 rw[if_neg hl]at h ⊢
 refine⟨by omega,?_⟩
 have hE:EndL (toksL x).1:=lex_end _ _ _ _
 cases hp:(toksL x).2 with
 |cons b bs=>
  exfalso
  rw[hp]at h
  exact lex_code _ _ _ _ b (List.mem_of_mem_take (i:=32) (by rw[show(lexL x.length 0 (-1) x).2.take 32=(toksL x).2 from rfl,hp];exact List.mem_cons_self)) h
 |nil=>
  rw[hp]at h
  simp only at h ⊢
  refine⟨take32 hp,?_⟩
  cases he:exprP N0 false (toksL x).1 with
  |err p c=>
   rw[he]at h
   exact absurd h ((((posE N0).expr false) _ hE).err p c he).2
  |ok b L=>
   rw[he]at h
   simp only[PR.bind_ok]at h ⊢
   by_cases hk:(hd L).kind≠6
   ·rw[if_pos hk]at h;exact absurd h (by show¬(90:Int)=0;decide)
   ·rw[if_neg hk]
    exact⟨b,L,rfl,he,Classical.not_not.1 hk⟩
theorem groups_par{x:Bs}{z:Ex}(h:(wholeP (exprP N0 false) z x).2.2=0)(hl:x.length≤1000):∃ b,wholeP (exprP N0 false) z x=(b,0,0)∧wholeP (exprP N0 false) z (40::(x++[10,41]))=(b,0,0):=by
 obtain⟨_,h2,b,L,h3,h4,h5⟩:=wholeP_ok h
 refine⟨b,h3,?_⟩
 obtain⟨A,a1,a2,a3⟩:=lex_app [41] x.length 0 x (Nat.le_refl _) (by omega) h2
 have hE:EndL (lexL x.length 0 (-1) x).1:=lex_end _ _ _ _
 have hs:=((posE N0).expr false _ hE).ok b L h4
 rw[a2]at hs h4
 have hL:=end_only a1 hs.2.1 hs.1 h5
 subst hL
 have hlex:lexL (40::(x++[10,41])).length 0 (-1) (40::(x++[10,41]))=(⟨5,ch 40,0⟩::(A++(lexL 1 (0+(x.length:Int)+1) (-1) [41]).1).map (shT 1),(lexL 1 (0+(x.length:Int)+1) (-1) [41]).2.map (shP 1)):=by
  rw[show(40::(x++[10,41])).length=(x.length+1+1)+1 by simp]
  rw[lex_par]
  have a4:lexL (x.length+2) 0 (-1) (x++[10,41])=(A++(lexL 1 (0+(x.length:Int)+1) (-1) [41]).1,(lexL 1 (0+(x.length:Int)+1) (-1) [41]).2):=a3
  rw[show x.length+1+1=x.length+2 from rfl,a4]
 have hone:∀ k:Int,lexL 1 k (-1) [41]=([⟨5,ch 41,k⟩,⟨6,⟨#[]⟩,k+1⟩],[]):=fun k=>by
  rw[lex_step _ _ _ (by simp),show pieceL [41]=(5,1,0) by decide,if_neg (by decide),if_neg (by decide),if_neg (by decide),if_pos (by decide)]
  rfl
 rw[hone]at hlex
 have ht:toksL (40::(x++[10,41]))=(⟨5,ch 40,0⟩::(A.map (shT 1)++[shT 1 ⟨5,ch 41,0+(x.length:Int)+1⟩,shT 1 ⟨6,⟨#[]⟩,0+(x.length:Int)+1+1⟩]),[]):=by
  unfold toksL
  simp only
  rw[hlex];simp
 have hE2:EndL (A++[⟨6,⟨#[]⟩,0+(x.length:Int)⟩]):=⟨A,_,rfl,rfl⟩
 have hsh:=((smE (alike_shift 1) N0).expr false).sim _ _ hE2 ⟨hE2,rfl⟩
 have h6:exprP N0 false (A.map (shT 1)++[shT 1 ⟨6,⟨#[]⟩,0+(x.length:Int)⟩])= .ok b [shT 1 ⟨6,⟨#[]⟩,0+(x.length:Int)⟩]:=by
  rcases hsh.ok b _ h4 with hD|⟨L2,e1,_,e3⟩
  ·exact hD.elim
  ·rw[e3,List.map_append]at e1;exact e1
 have hA:A.length≤1001:=by
  have:=lex_len x.length 0 (-1) x
  rw[a2]at this
  simp at this;omega
 have hg:=group_same (A:=A.map (shT 1)) (e:=shT 1 ⟨6,⟨#[]⟩,0+(x.length:Int)⟩) (p:=⟨5,ch 40,0⟩) (c:=shT 1 ⟨5,ch 41,0+(x.length:Int)+1⟩) (e2:=shT 1 ⟨6,⟨#[]⟩,0+(x.length:Int)+1+1⟩) ⟨rfl,rfl⟩ ⟨rfl,rfl⟩ ⟨rfl,rfl⟩ rfl (by rw[List.length_map];omega) h6
 unfold wholeP
 rw[if_neg (by simp;omega),ht]
 simp only
 rw[hg,PR.bind_ok,if_neg (by show¬((6:Int)≠6);simp)]
def opL:List (Bs×Nat):=[([32,100,101,102,97,117,108,116,32],1),([32,111,114,32],2),([32,97,110,100,32],3),([32,61,61,32],4),([32,33,61,32],4),([32,60,32],4),([32,60,61,32],4),([32,43,32],5),([32,45,32],5),([32,42,32],6),([32,47,32],6)]
abbrev OpP:Type:=(Bs×Nat)×(Bs×Nat)
def pairL:List OpP:=opL.flatMap fun a=>opL.map fun b=>(a,b)
def twoT(p:OpP):Bs:=[120]++p.1.1++[121]++p.2.1++[122]
def parT(p:OpP):Bs:=if p.2.2>p.1.2 then[120]++p.1.1++[40,121]++p.2.1++[122,41]else[40,120]++p.1.1++[121,41]++p.2.1++[122]
def goodL:List OpP:=pairL.filter fun p=> !(p.1.2 == 4 && p.2.2 == 4)
def badL:List OpP:=pairL.filter fun p=>p.1.2 == 4 && p.2.2 == 4
def ex0:Ex:= .mk 0 ⟨#[]⟩ ⟨#[]⟩ ⟨#[]⟩ v0 [] 0 w0 []
theorem ops_same:(goodL.map fun p=>wholeP (exprP N0 false) ex0 (twoT p))=goodL.map fun p=>wholeP (exprP N0 false) ex0 (parT p):=by kernel_rfl
theorem ops_ok:(goodL.map fun p=>(wholeP (exprP N0 false) ex0 (twoT p)).2)=goodL.map fun _=>(0,0):=by kernel_rfl
theorem ops_bad:(badL.map fun p=>(wholeP (exprP N0 false) ex0 (twoT p)).2.2)=badL.map fun _=>90:=by kernel_rfl
theorem ops_bad2:(badL.map fun p=>(wholeP (exprP N0 false) ex0 (parT p)).2.2)=badL.map fun _=>0:=by kernel_rfl
theorem ops_good{p:OpP}(h:p∈pairL)(h4:¬(p.1.2=4∧p.2.2=4)):wholeP (exprP N0 false) ex0 (twoT p)=wholeP (exprP N0 false) ex0 (parT p)∧(wholeP (exprP N0 false) ex0 (twoT p)).2=(0,0):=by
 have hm:p∈goodL:=List.mem_filter.2 ⟨h,by by_cases a:p.1.2=4<;>by_cases b:p.2.2=4<;>simp_all⟩
 exact⟨List.map_inj_left.1 ops_same p hm,List.map_inj_left.1 ops_ok p hm⟩
theorem ops_wrong{p:OpP}(h:p∈pairL)(h4:p.1.2=4∧p.2.2=4):(wholeP (exprP N0 false) ex0 (twoT p)).2.2=90∧(wholeP (exprP N0 false) ex0 (parT p)).2.2=0:=by
 have hm:p∈badL:=List.mem_filter.2 ⟨h,by simpa using h4⟩
 exact⟨List.map_inj_left.1 ops_bad p hm,List.map_inj_left.1 ops_bad2 p hm⟩
theorem few_ok(l:List UInt8)(n:Nat)(hl:l.length≤maxLen)(nn:Bool):Pure Tryz.prog 13 [.sl nn 1 (l.map byteRow),iv n] (.sl nn 1 ((l.take n).map byteRow)):=by
 refine Pure.runk (fun _=>0) Tryz.func13 comp13 era13 (Nat.le_of_ble_eq_true rfl) fun σ=> ?_
 repeat'(first|exact .nil|refine .k0 ?_|refine .k1 ?_|refine .k2 ?_|refine .k7 ?_|refine .k9 ?_|(refine .cd ?_ ?_<;>(intro hc;skip))|refine .r1 ?_ ?_|(refine .m2 ?_ ?_;intro hlen)|refine .t2 ?_ ?_ ?_|fail)
 try any_goals(exact Zo)
 all_goals(try simp only[BL]at *)
 ·exact⟨.refl _,Sub.refl _⟩
 ·rw[List.take_of_length_le (by omega)]
  exact⟨.refl _,Sub.refl _⟩
def rankI(n:Int):Nat:=if n.tmod 11<0 then(-(n.tmod 11)).toNat else(n.tmod 11).toNat
theorem rankI_lt(n:Int):rankI n<11:=by
 unfold rankI
 have h1:=Int.tmod_lt_of_pos n (b:=11) (by decide)
 have h2: -11<n.tmod 11:=by
  have h3:=Int.tmod_lt_of_pos (-n) (b:=11) (by decide)
  rw[Int.neg_tmod]at h3
  omega
 split<;>omega
theorem rank_ok(n:Int):Pure Tryz.prog 17 [iv n] (.tup [sv ⟨((opL.getD (rankI n) default).1).toArray⟩,iv (opL.getD (rankI n) default).2]):=by
 have h1:=Int.tmod_lt_of_pos n (b:=11) (by decide)
 have h2: -11<n.tmod 11:=by
  have h3:=Int.tmod_lt_of_pos (-n) (b:=11) (by decide)
  rw[Int.neg_tmod]at h3
  omega
 obtain⟨t,ht⟩:∃ t,n.tmod 11=t:=⟨_,rfl⟩
 have hr:rankI n=if t<0 then(-t).toNat else t.toNat:=by unfold rankI;rw[ht]
 rw[hr]
 rw[ht]at h1 h2
 refine Pure.runk (fun _=>0) Tryz.func17 comp17 era17 (Nat.le_of_ble_eq_true rfl) fun σ=> ?_
 repeat'(first|exact .nil|refine .k0 ?_|refine .k1 ?_|refine .k2 ?_|refine .k5 ?_|refine .k9 ?_|(refine .cd ?_ ?_<;>(intro hc;skip))|refine .r1 ?_ ?_|(refine .m3 ?_ ?_;intro hlen)|refine .r8 ?_ ?_|fail)
 try any_goals(exact Zo)
 all_goals(try simp only[BL]at *)
 all_goals try exact Nat.le_of_ble_eq_true rfl
 all_goals simp only[List.length_cons,List.length_nil,Nat.zero_add,Nat.reduceAdd,Int.cast_ofNat_Int,ht]at *
 ·exact⟨trivial,by rw[IntKind.wrap_i64];omega,by rw[IntKind.wrap_i64];omega⟩
 ·rcases(by omega:t= -1∨t= -2∨t= -3∨t= -4∨t= -5∨t= -6∨t= -7∨t= -8∨t= -9∨t= -10)with rfl|rfl|rfl|rfl|rfl|rfl|rfl|rfl|rfl|rfl<;>(repeat'(first|exact .nil|refine .k0 ?_|refine .k1 ?_|refine .k7 ?_|refine .r1 ?_ ?_|refine .r8 ?_ ?_|fail))<;>first|exact⟨rfl,by decide,by decide⟩|exact⟨.refl _,Sub.refl _⟩
 ·exact⟨trivial,by omega,by omega⟩
 ·rcases(by omega:t=0∨t=1∨t=2∨t=3∨t=4∨t=5∨t=6∨t=7∨t=8∨t=9∨t=10)with rfl|rfl|rfl|rfl|rfl|rfl|rfl|rfl|rfl|rfl|rfl<;>(repeat'(first|exact .nil|refine .k0 ?_|refine .k1 ?_|refine .k7 ?_|refine .r1 ?_ ?_|refine .r8 ?_ ?_|fail))<;>first|exact⟨rfl,by decide,by decide⟩|exact⟨.refl _,Sub.refl _⟩
abbrev wX(s:Bs):Ex×Int×Int:=wholeP (exprP N0 false) ex0 s
def atX(s:Bs):Int:=if(wholeB (exprP N0 false) s).1.2=0 then 0 else(wholeB (exprP N0 false) s).1.1
theorem codeX(s:Bs):(wholeB (exprP N0 false) s).1.2=(wX s).2.2:=by
 unfold wX wholeB wholeP
 split
 ·rfl
 ·split
  ·rename_i h;rw[h]
  ·rename_i h;rw[h];simp only
   cases exprP N0 false (toksL s).1 with
   |err p c=>rfl
   |ok a L=>
    rw[PR.bind_ok]
    simp only
    by_cases hk:(hd L).kind≠6
    ·rw[if_pos hk,if_pos hk];rfl
    ·rw[if_neg hk,if_neg hk]
theorem valX(s:Bs):(if(wX s).2.2=0 then(wholeB (exprP N0 false) s).2.getD ex0 else ex0)=(wX s).1:=by
 rw[← codeX]
 unfold wX wholeB wholeP
 split
 ·rfl
 ·split
  ·rename_i h;rw[h];simp
  ·rename_i h;rw[h];simp only
   cases exprP N0 false (toksL s).1 with
   |err p c=>simp[PR.bind]
   |ok a L=>
    rw[PR.bind_ok]
    simp only
    by_cases hk:(hd L).kind≠6
    ·rw[if_pos hk,if_pos hk];rfl
    ·rw[if_neg hk,if_neg hk];rfl
theorem zE_wk:WkL zE ex0.row:=by
 refine .cons (.refl _) (.cons (.refl _) (.cons (.refl _) (.cons (.refl _) (.cons (.refl _) (.cons (.refl _) (.cons (.refl _) (.cons .nil (.cons (.refl _) (.cons (.refl _) (.cons (.refl _) (.cons .nil .nil)))))))))))
theorem Pure.wkr{f:FuncId}{xs:List AV}{r r':AV}(h:Sx.Pure Tryz.prog f xs r)(hw:Wk r r'):Sx.Pure Tryz.prog f xs r':=
 ⟨fun σ=>(h.sp σ).weak fun q σ' ⟨e1,e2⟩=>⟨.ret r',σ,⟨rfl,rfl⟩,by subst e2;exact .refl _,by subst e1;exact hw⟩⟩
theorem exprT(s:List UInt8)(nn:Bool):Sx.Pure Tryz.prog 10 [.sl nn 1 (s.map byteRow)] (.tup [.agg (wX s).1.row,iv (atX s),iv (wX s).2.2]):=by
 refine Pure.wkr (exprA s nn) ?_
 have hv:=valX s
 unfold exprV atX
 rw[codeX]at *
 by_cases h:(wX s).2.2=0
 ·rw[if_pos h,if_pos h,h]
  rw[if_pos h]at hv
  cases hB:(wholeB (exprP N0 false) s).2 with
  |none=>
   rw[hB]at hv
   rw[← hv]
   exact .tup (.cons (.agg zE_wk) (WkL.refl _))
  |some a=>
   rw[hB]at hv
   rw[← hv]
   exact .tup (.cons (.agg (by rw[Option.elim_some,Option.getD_some];exact WkL.refl _)) (WkL.refl _))
 ·rw[if_neg h,if_neg h]
  rw[if_neg h]at hv
  rw[← hv]
  exact .tup (.cons (.agg zE_wk) (WkL.refl _))
theorem opL_len:opL.length=11:=rfl
theorem pair_mem{a b:Nat}(ha:a<11)(hb:b<11):(opL.getD a default,opL.getD b default)∈pairL:=by
 have h1:opL.getD a default∈opL:=by
  rw[List.getD_eq_getElem?_getD,List.getElem?_eq_getElem (by rw[opL_len];exact ha)];exact List.getElem_mem _
 have h2:opL.getD b default∈opL:=by
  rw[List.getD_eq_getElem?_getD,List.getElem?_eq_getElem (by rw[opL_len];exact hb)];exact List.getElem_mem _
 exact List.mem_flatMap.2 ⟨_,h1,List.mem_map.2 ⟨_,h2,rfl⟩⟩
theorem opS_len{a:Nat}(ha:a<11):(opL.getD a default).1.length≤10:=by
 have:∀ a:Fin 11,(opL.getD a.val default).1.length≤10:=by decide
 exact this ⟨a,ha⟩
theorem app_toList(a b:Str):(a++b).data.toList=a.data.toList++b.data.toList:=by
 show((ByteArray.append a b).data).toList=_
 simp
abbrev oB(s:Bs):Str:=⟨s.toArray⟩
theorem oB_size(l:Bs):(⟨l.toArray⟩:Str).size=l.length:=rfl
theorem app_sz(a b:Str):(a++b).size=a.size+b.size:=by rw[Lib.size_eq,Lib.size_eq,Lib.size_eq,app_toList,List.length_append]
theorem groups_walk(src x:Bs)(m n:Int)(hl:src.length≤maxLen)(one two:Bs)(p q:Nat)(A B C D:Ex)(pa pb pc pd e f g h:Int)(hx3:x.length≤300)(h1:one.length≤10)(h2:two.length≤10)(r0:Sx.Pure Tryz.prog 13 [.sl false 1 (src.map byteRow),iv 300] (.sl false 1 (x.map byteRow)))
  (r1:Sx.Pure Tryz.prog 17 [iv m] (.tup [sv (oB one),iv p])) (r2:Sx.Pure Tryz.prog 17 [iv n] (.tup [sv (oB two),iv q]))
  (hx:Sx.Pure Tryz.prog 10 [.sl true 1 (x.map byteRow)] (.tup [.agg A.row,iv pa,iv e]))
  (hy:Sx.Pure Tryz.prog 10 [.sl true 1 ((oB [40]++oB x++oB [10,41]).data.toList.map byteRow)] (.tup [.agg B.row,iv pb,iv f]))
  (hab:e=0→Sx.Pure Tryz.prog 16 [.agg A.row,.agg B.row] (.v (.bool true))) (hef:e=0→f=0)
  (hC:Sx.Pure Tryz.prog 10 [.sl true 1 ((oB [120]++oB one++oB [121]++oB two++oB [122]).data.toList.map byteRow)] (.tup [.agg C.row,iv pc,iv g]))
  (hD:p<q→Sx.Pure Tryz.prog 10 [.sl true 1 ((oB [120]++oB one++oB [40,121]++oB two++oB [122,41]).data.toList.map byteRow)] (.tup [.agg D.row,iv pd,iv h]))
  (hE:¬p<q→Sx.Pure Tryz.prog 10 [.sl true 1 ((oB [40,120]++oB one++oB [121,41]++oB two++oB [122]).data.toList.map byteRow)] (.tup [.agg D.row,iv pd,iv h]))
  (hcd:¬(p=4∧q=4)→Sx.Pure Tryz.prog 16 [.agg C.row,.agg D.row] (.v (.bool true))) (hh:h=0) (hg:g=if p=4∧q=4 then 90 else 0):
  Sx.Pure Tryz.prog 6 [.sl false 1 (src.map byteRow),iv m,iv n] (.v (.bool true)):=by
 have hxs:(oB x).size=x.length:=rfl
 have h1s:(oB one).size=one.length:=rfl
 have h2s:(oB two).size=two.length:=rfl
 refine Pure.runk (fun _=>0) Tryz.func6 comp6 era6 (Nat.le_of_ble_eq_true rfl) fun σ=> ?_
 repeat'(first|exact .nil|refine .k0 ?_|refine .k1 ?_|refine .k2 ?_|refine .k4 ?_|refine .k7 ?_|refine .k9 ?_|(refine .cd ?_ ?_<;>(intro hc;skip))|refine .r1 ?_ ?_|(refine .l1 ?_;intro b)|refine .an rfl (by intro hob;first|exact r0|exact r1|exact r2|exact hx|exact hy|exact hab (by(simp only[BL]at *;omega))|exact hC|(refine hD ?_;have:=of_decide_eq_true hc;omega)|(refine hE ?_;have:=of_decide_eq_false hc;omega)|(refine hcd ?_;simp only[Bool.and_eq_false_iff,decide_eq_false_iff_not]at hc;omega)|exact example_ok) ?_ ?_|refine .t7 ?_ ?_ ?_|refine .r5 ?_ ?_|fail)
 all_goals try(first|(intro _;simp only[app_sz,oB_size,List.length_cons,List.length_nil];omega)|(simp only[app_sz,oB_size,List.length_cons,List.length_nil];omega))
 all_goals clear hx hy hC hD hE hcd hab r0 r1 r2 hxs h1s h2s
 ·exfalso
  simp only[Bool.and_eq_true,decide_eq_true_eq,Bool.not_true,Bool.or_false,Bool.not_eq_true',decide_eq_false_iff_not]at hc
  exact hc.2 (hef hc.1)
 all_goals
  subst hh
  simp only[Bool.and_eq_true,Bool.and_eq_false_iff,decide_eq_true_eq,decide_eq_false_iff_not]at hc
  by_cases h44:p=4∧q=4
  ·rw[if_pos h44]at hg;subst hg;first|(exfalso;omega)|(show Sx.Fin _ _ _ _;(refine Sx.Fin.wk Zs ?_;repeat' first|exact .refl _|fail))
  ·rw[if_neg h44]at hg;subst hg;first|(exfalso;omega)|(show Sx.Fin _ _ _ _;(refine Sx.Fin.wk Zs ?_;repeat' first|exact .refl _|fail))
theorem groups_ok(src:List UInt8)(m n:Int)(hl:src.length≤maxLen):Sx.Pure Tryz.prog 6 [.sl false 1 (src.map byteRow),iv m,iv n] (.v (.bool true)):=by
 obtain⟨x,hx⟩:∃ x,src.take 300=x:=⟨_,rfl⟩
 have hx3:x.length≤300:=by rw[← hx,List.length_take];omega
 have ha:=rankI_lt m
 have hb:=rankI_lt n
 obtain⟨a,hra⟩:∃ a,rankI m=a:=⟨_,rfl⟩
 obtain⟨b,hrb⟩:∃ b,rankI n=b:=⟨_,rfl⟩
 rw[hra]at ha
 rw[hrb]at hb
 have r0:=few_ok src 300 hl false
 have r1:=rank_ok m
 have r2:=rank_ok n
 rw[hx]at r0
 rw[hra]at r1
 rw[hrb]at r2
 have hpm:=pair_mem ha hb
 have l1:=opS_len ha
 have l2:=opS_len hb
 obtain⟨o,ho⟩:∃ o,opL.getD a default=o:=⟨_,rfl⟩
 obtain⟨u,hu⟩:∃ u,opL.getD b default=u:=⟨_,rfl⟩
 rw[ho]at r1 hpm l1
 rw[hu]at r2 hpm l2
 have e2:(oB [40]++oB x++oB [10,41]).data.toList=40::(x++[10,41]):=by rw[app_toList,app_toList];simp
 have e3:(oB [120]++oB o.1++oB [121]++oB u.1++oB [122]).data.toList=twoT (o,u):=by
  rw[app_toList,app_toList,app_toList,app_toList];rfl
 have hS:∀ {A B:Ex},A=B→Sx.Pure Tryz.prog 16 [.agg A.row,.agg B.row] (.v (.bool true)):=fun {A B} h=>by subst h;exact sameX_t A
 have hpar:(wX x).2.2=0→(wX x).1=(wX (40::(x++[10,41]))).1∧(wX (40::(x++[10,41]))).2.2=0:=fun h=>by
  obtain⟨b,h1,h2⟩:=groups_par (z:=ex0) h (by omega)
  rw[show wX x=_ from h1,show wX (40::(x++[10,41]))=_ from h2]
  exact⟨rfl,rfl⟩
 have hcd:(¬(o.2=4∧u.2=4)→(wX (twoT (o,u))).1=(wX (parT (o,u))).1)∧(wX (parT (o,u))).2.2=0∧(wX (twoT (o,u))).2.2=if o.2=4∧u.2=4 then 90 else 0:=by
  by_cases h4:o.2=4∧u.2=4
  ·obtain⟨h1,h2⟩:=ops_wrong hpm h4
   exact⟨fun h=>absurd h4 h,h2,by rw[if_pos h4];exact h1⟩
  ·obtain⟨h1,h2⟩:=ops_good hpm h4
   exact⟨fun _=>by show(wholeP (exprP N0 false) ex0 (twoT (o,u))).1=_;rw[h1],by show(wholeP (exprP N0 false) ex0 (parT (o,u))).2.2=_;rw[← h1,h2],by rw[if_neg h4];show(wholeP (exprP N0 false) ex0 (twoT (o,u))).2.2=_;rw[h2]⟩
 exact groups_walk src x m n hl o.1 u.1 o.2 u.2 (wX x).1 (wX (40::(x++[10,41]))).1 (wX (twoT (o,u))).1 (wX (parT (o,u))).1 _ _ _ _ (wX x).2.2 (wX (40::(x++[10,41]))).2.2 (wX (twoT (o,u))).2.2 (wX (parT (o,u))).2.2 hx3 l1 l2 r0 r1 r2
  (exprT x true) (by rw[e2];exact exprT _ true) (fun h=>hS (hpar h).1) (fun h=>(hpar h).2) (by rw[e3];exact exprT _ true)
  (fun h=>by
   have e:(oB [120]++oB o.1++oB [40,121]++oB u.1++oB [122,41]).data.toList=parT (o,u):=by
    rw[app_toList,app_toList,app_toList,app_toList];unfold parT;rw[if_pos h]
   rw[e];exact exprT _ true)
  (fun h=>by
   have e:(oB [40,120]++oB o.1++oB [121,41]++oB u.1++oB [122]).data.toList=parT (o,u):=by
    rw[app_toList,app_toList,app_toList,app_toList];unfold parT;rw[if_neg h]
   rw[e];exact exprT _ true)
  (fun h=>hS (hcd.1 h)) hcd.2.1 hcd.2.2
theorem own:ownKnob Tryz.prog.godebug=none:=by kernel_rfl
theorem laidOut:laidOutB Tryz.prog=true:=by kernel_rfl
section
variable {H:Type}{enc:TypeId×Value→H}{W:World}
theorem rd_int(n:Nat):Rd enc Tryz.prog W n 3 fun l=>∃ z:Int,l=[iv z]:=(Rd.int Tryz.underlying3).mono fun l ⟨z,h,_⟩=>⟨z,h⟩
theorem rd_byte(n:Nat):Rd enc Tryz.prog W n 5 fun l=>∃ b:UInt8,l=byteRow b:=(Rd.int Tryz.underlying5).mono fun l ⟨z,h,hw⟩=>by
 simp only[Lit.wf,Bool.and_eq_true,decide_eq_true_eq]at hw
 have h1:(0:Int)≤z:=hw.1
 have h2:z≤255:=hw.2
 refine⟨UInt8.ofNat z.toNat,?_⟩
 rw[h]
 unfold byteRow
 have:(UInt8.ofNat z.toNat).toNat=z.toNat:=by simp;omega
 rw[this,Int.toNat_of_nonneg h1]
theorem rd_bytes:∀ n:Nat,Rd enc Tryz.prog W n 22 fun l=>∃ s:List UInt8,l=[.sl false 1 (s.map byteRow)]∧s.length≤maxLen
 |0=>Rd.zero _ _
 |n+1=>(Rd.slice Tryz.underlying22 (esz:=1) (by kernel_rfl) (by decide) (rd_byte n)).mono (by
  rintro _ ⟨rows,rfl,hm,h⟩
  obtain⟨ls,rfl,_⟩:=rows_map (f:=byteRow) (W:=fun _=>True) (fun r hr=>by obtain⟨x,h⟩:=h r hr;exact⟨x,h,trivial⟩)
  exact⟨ls,rfl,by simpa using hm⟩)
end
end Go.Proofs.YtdcpcffpapiadaaGreatDoor
namespace Go.Proofs.YtdcpcffpapiadaaGreatDoor
open Go.Sx Go.Proofs Go.Lib
theorem pc_of{W:World}{g:Nat}{x:AV}{v:Value}(hc:W.cell? ⟨g,0,none⟩=some v)(h:R (M0 W) x v):R (M0 W) (.pc [x]) (.pointer (some ⟨g,0,none⟩)):=by
 refine .pc [x] g 0 (fun _=>v) (fun k hk=> ?_) (fun k hk=> ?_)
 ·obtain rfl:k=0:=by simpa using hk
  exact hc
 ·obtain rfl:k=0:=by simpa using hk
  exact h
theorem pcs_of{W:World}{g:Nat}{vs:List Value}(hc:∀ k (h:k<vs.length),W.cell? ⟨g,k,none⟩=some vs[k]):R (M0 W) (.pc (vs.map AV.v)) (.pointer (some ⟨g,0,none⟩)):=by
 refine .pc _ g 0 (fun k=>vs.getD k undef) (fun k hk=> ?_) (fun k hk=> ?_)
 ·have hk':k<vs.length:=by simpa using hk
  rw[Nat.zero_add,List.getD_eq_getElem?_getD,List.getElem?_eq_getElem hk']
  exact hc k hk'
 ·have hk':k<vs.length:=by simpa using hk
  rw[List.getElem_map,List.getD_eq_getElem?_getD,List.getElem?_eq_getElem hk']
  exact .v _
theorem tab_of{W:World}{name:String}{d:DataW Unit}{G:Nat}{t e:TypeId}{n:Nat}{k:IntKind}{zs:List Int}(h:VarReads Tryz.prog W name d)(hd:d=tabData k zs)(hG:Tryz.prog.globalNamed name=some G)(hty:(Tryz.prog.globals[G]?).map (·.type)=some t)
  (ht:Tryz.prog.underlying t=some (.array n e)) (he:Tryz.prog.underlying e=some (.int k)) (h1:Tryz.prog.cellsOf e=1) (hn:Tryz.prog.cellsOf t=n):TabIs Tryz.prog W name k zs:=by
 obtain⟨g,t',cs,fuel,p,g1,g2,g3,g4⟩:=h
 obtain rfl:=Option.some.inj (hG.symm.trans g1)
 obtain rfl:=Option.some.inj (hty.symm.trans g2)
 rw[hd]at g4
 have:=cells_of_tab ht he h1 hn g4
 unfold TabIs
 rw[g3,← this]
theorem pc_tab{W:World}{name:String}{G:Nat}{k:IntKind}{zs:List Int}(h:TabIs Tryz.prog W name k zs)(hG:Tryz.prog.globalNamed name=some G):R (M0 W) (.pc ((zs.map fun z=>Value.int k z).map AV.v)) (.pointer (some ⟨G,0,none⟩)):=by
 refine pcs_of fun i hi=> ?_
 have hi':i<zs.length:=by simpa using hi
 have:=h.cell hG i hi'
 rw[this]
 simp[hi']
theorem globOK{W:World}(hL:laidMet Tryz.prog Rows.parserGroupsRow.laid W)(hsh:W.ShapedOpen Tryz.prog):GlobOK Tryz.prog W:=by
 have hpow:=laidMet.reads hL (n:= "internal/strconv.uint64pow10") (d:=Rows.laid_internal_strconv_uint64pow10) (by simp[Rows.parserGroupsRow])
 refine⟨fun g l h=> ?_,?_,?_⟩
 ·simp only[Glob.av]at h
  split at h
  ·cases h
   obtain⟨m,hm⟩:=cell_of_shapedOpen_int (g:=0) (zero:= #[.int .i64 0]) (t:=3) hsh (of_decide_eq_true (by kernel_rfl)) (by kernel_rfl) rfl (by kernel_rfl) (by kernel_rfl) Tryz.underlying3
   exact pc_of hm (.ai .i64 m)
  ·cases h
   have h1:=tab_of (k:= .i64) (zs:=[1,10,100,1000,10000,100000,1000000]) (n:=7) (G:=3) (t:=191) (e:=3) (laidMet.reads hL (n:= "asof/decimal.tens") (d:=Rows.laid_asof_decimal_tens) (by simp[Rows.parserGroupsRow])) (by rfl) (by kernel_rfl) (by kernel_rfl) Tryz.underlying191 Tryz.underlying3 (by kernel_rfl) (by kernel_rfl)
   exact pc_tab h1 (by kernel_rfl)
  ·cases h
   obtain⟨g,t,cs,fuel,p,h1,h2,h3,h4⟩:=laidMet.reads hL (n:= "strconv.ErrRange") (d:=Rows.laid_strconv_ErrRange) (by simp[Rows.parserGroupsRow])
   have hG:Tryz.prog.globalNamed "strconv.ErrRange" =some 5:=by kernel_rfl
   obtain rfl:=Option.some.inj (hG.symm.trans h1)
   have hty:(Tryz.prog.globals[5]?).map (·.type)=some 123:=by kernel_rfl
   obtain rfl:=Option.some.inj (hty.symm.trans h2)
   have hc0:=World.var?_cell hG h3 0
   have hstar: "*" ++ "errors.errorString" = "*errors.errorString" :=by decide
   cases fuel with
   |zero=>simp[DataW.trod]at h4
   |succ fuel=>
    unfold DataW.trod at h4
    rw[Tryz.underlying123]at h4
    clear hL hsh hpow h1 h2 hty h3
    generalize hcl:cs.toList=l at h4
    have e0:cs[0]? =l[0]? :=by rw[← hcl];simp
    rw[e0]at hc0
    clear e0 hcl
    have key:∃ u v,l=[.iface u v]∧Tryz.prog.typeName? 3 u=some "*errors.errorString" :=by
     unfold Rows.laid_strconv_ErrRange at h4
     split at h4
     all_goals first|(exfalso;rename_i heq;cases heq;done)|(exfalso;rename_i heq _;cases heq;done)|(exfalso;cases h4;done)|skip
     rename_i u v _
     refine⟨u,v,rfl,?_⟩
     cases hn:Tryz.prog.typeName? 3 u with
     |none=>rw[hn]at h4;cases h4
     |some nm=>
      rw[hn]at h4
      simp only[Option.map_eq_some_iff,Prod.mk.injEq,DataW.iface.injEq]at h4
      obtain⟨_,_,⟨rfl,_⟩,_⟩:=h4
      rfl
    obtain⟨u,v,rfl,hu⟩:=key
    obtain rfl:u=236:=typeName_ptr_named (nm:= "errors.errorString") (by rw[hstar];kernel_rfl) (by kernel_rfl) (by decide) u (by rw[hstar];exact hu)
    exact pc_of (hc0.trans rfl) (.ifc _ _ v (.any v))
  ·cases h
   have h1:=tab_of (k:= .u8) (zs:=firstTab) (n:=256) (G:=6) (t:=100) (e:=5) (laidMet.reads hL (n:= "unicode/utf8.first") (d:=Rows.laid_unicode_utf8_first) (by simp[Rows.parserGroupsRow])) (by kernel_rfl) (by kernel_rfl) (by kernel_rfl) Tryz.underlying100 Tryz.underlying5 (by kernel_rfl) (by kernel_rfl)
   have:=pc_tab h1 (G:=6) (by kernel_rfl)
   rw[show(firstTab.map fun z=>Value.int .u8 z).map AV.v=(List.range 256).map fun c=>AV.v (.int .u8 (Lib.firstT c:Nat)) by unfold firstTab;rw[List.map_map,List.map_map];rfl]at this
   exact this
  ·cases h
   have h4:=laidMet.reads hL (n:= "unicode/utf8.acceptRanges") (d:=Rows.laid_unicode_utf8_acceptRanges) (by simp[Rows.parserGroupsRow])
   rw[show(Rows.laid_unicode_utf8_acceptRanges:DataW Unit)=acceptData by kernel_rfl]at h4
   have hcell:∀ i,i<16→W.cell? ⟨7,2 * i,none⟩=some (.int .u8 (Lib.accLo i:Nat))∧W.cell? ⟨7,2 * i+1,none⟩=some (.int .u8 (Lib.accHi i:Nat)):=fun i hi=>by
    obtain⟨g,t,cs,fuel,p,hg,hty,hvar,hd⟩:=h4
    have hG:Tryz.prog.globalNamed "unicode/utf8.acceptRanges" =some 7:=by kernel_rfl
    obtain rfl:=Option.some.inj (hG.symm.trans hg)
    have hty':(Tryz.prog.globals[7]?).map (·.type)=some 223:=by kernel_rfl
    obtain rfl:=Option.some.inj (hty'.symm.trans hty)
    obtain⟨fuel',d,q,hdi,he⟩:=array_elem Tryz.underlying223 hd i hi
    simp only[List.getElem?_map,List.getElem?_range hi,Option.map_some,Option.some.injEq]at hdi
    subst hdi
    have c2:Tryz.prog.cellsOf 222=2:=by kernel_rfl
    rw[c2]at he
    have hcs:=ints_of_struct Tryz.underlying222 (fun j f hj=>by
     match j,hj with
     |0,hj=>simp at hj;subst hj;exact⟨Tryz.underlying5,rfl,by kernel_rfl⟩
     |1,hj=>simp at hj;subst hj;exact⟨Tryz.underlying5,rfl,by kernel_rfl⟩
     |j+2,hj=>simp at hj) (by rw[c2];rfl) he
    have e0:=congrArg (·[0]?) hcs
    have e1:=congrArg (·[1]?) hcs
    simp only[List.getElem?_take,List.getElem?_drop]at e0 e1
    constructor
    ·rw[World.var?_cell hG hvar (2 * i),← Array.getElem?_toList]
     simpa[Nat.mul_comm]using e0
    ·rw[World.var?_cell hG hvar (2 * i+1),← Array.getElem?_toList]
     simpa[Nat.mul_comm]using e1
   have hl:((List.range 16).flatMap fun i=>[AV.v (.int .u8 (Lib.accLo i:Nat)),AV.v (.int .u8 (Lib.accHi i:Nat))])=(((List.range 16).flatMap fun i=>[(Value.int .u8 (Lib.accLo i:Nat)),(Value.int .u8 (Lib.accHi i:Nat))]).map AV.v):=by kernel_rfl
   rw[hl]
   refine pcs_of fun k hk=> ?_
   have hk':k<32:=hk
   have key:∀ i:Fin 16,((List.range 16).flatMap fun i=>[(Value.int .u8 (Lib.accLo i:Nat)),(Value.int .u8 (Lib.accHi i:Nat))])[2 * i.val]? =some (Value.int .u8 (Lib.accLo i.val:Nat))∧
     ((List.range 16).flatMap fun i=>[(Value.int .u8 (Lib.accLo i:Nat)),(Value.int .u8 (Lib.accHi i:Nat))])[2 * i.val+1]? =some (Value.int .u8 (Lib.accHi i.val:Nat)):=by
    rintro⟨i,hi⟩
    have:i=0∨i=1∨i=2∨i=3∨i=4∨i=5∨i=6∨i=7∨i=8∨i=9∨i=10∨i=11∨i=12∨i=13∨i=14∨i=15:=by omega
    rcases this with rfl|rfl|rfl|rfl|rfl|rfl|rfl|rfl|rfl|rfl|rfl|rfl|rfl|rfl|rfl|rfl<;>exact⟨rfl,rfl⟩
   obtain⟨k1,k2⟩:=key ⟨k / 2,by omega⟩
   obtain⟨c1,c2⟩:=hcell (k / 2) (by omega)
   rcases Nat.mod_two_eq_zero_or_one k with e|e
   ·rw[show 2 * (k / 2)=k by omega]at c1 k1
    rw[c1,← k1,List.getElem?_eq_getElem hk]
   ·rw[show 2 * (k / 2)+1=k by omega]at c2 k2
    rw[c2,← k2,List.getElem?_eq_getElem hk]
  ·cases h
 ·exact tab_of (G:=8) hpow (by rfl) (by kernel_rfl) (t:=225) (n:=20) (e:=110) (by kernel_rfl) Tryz.underlying225 Tryz.underlying110 (by kernel_rfl) (by kernel_rfl)
 ·obtain⟨g,t,cs,fuel,p,h1,h2,h3,h4⟩:=hpow
  have hG:Tryz.prog.globalNamed "internal/strconv.uint64pow10" =some 8:=by kernel_rfl
  simp only[World.var?,hG,Option.bind_some]at h3
  split at h3
  ·rename_i e
   exact(Array.getElem?_eq_some_iff.1 e).1
  ·cases h3
end Go.Proofs.YtdcpcffpapiadaaGreatDoor
