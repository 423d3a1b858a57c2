/- Module, walked. -/
import Derived.Test.YtdcpcffpapiadaaGreatDoorZs
import Derived.Test.YtdcpcffpapiadaaGreatDoorWi
import Derived.Test.YtdcpcffpapiadaaGreatDoorZf
import Derived.Test.YtdcpcffpapiadaaGreatDoorZa
import Derived.Test.YtdcpcffpapiadaaGreatDoorTj
import Derived.Test.YtdcpcffpapiadaaGreatDoorSxB
import Derived.Test.YtdcpcffpapiadaaGreatDoorRows
import Derived.Lib.LaidU8
import Derived.LaidLaws
import Derived.Shelf.Vars
import Derived.HandedShaped
set_option linter.unusedSimpArgs false
set_option linter.unusedVariables false
set_option linter.unusedSectionVars false
set_option maxRecDepth 100000
set_option maxHeartbeats 8000000
namespace Go.Proofs.YtdcpcffpapiadaaGreatDoor
open Go.Sx Go.Proofs
def StgR(r:List AV):Prop:=(∃ j,∃ h:j<r.length,∃ s,r[j]= .v (.string s))∧∀ x∈r,Stg x
theorem stg_sl{nn:Bool}{e:Nat}{rows:List (List AV)}(h:∀ r∈rows,StgR r):Stg (.sl nn e rows):=
 .sl _ _ _ (fun i hi=>(h _ (List.getElem_mem hi)).1) fun i hi j hj=>(h _ (List.getElem_mem hi)).2 _ (List.getElem_mem hj)
theorem stg_own{e t b u c:Nat}{rows:List (List AV)}(h:∀ r∈rows,StgR r):Stg (.own e t b u c rows):=
 .own _ _ _ _ _ _ (fun i hi=>(h _ (List.getElem_mem hi)).1) fun i hi j hj=>(h _ (List.getElem_mem hi)).2 _ (List.getElem_mem hj)
theorem stg_map{α:Type}{f:α→List AV}{l:List α}(h:∀ x,StgR (f x)):∀ r∈l.map f,StgR r:=fun r hr=>by
 obtain⟨x,_,rfl⟩:=List.mem_map.1 hr;exact h x
theorem stg_tok(t:Tok):StgR t.cells:=⟨⟨1,Nat.le_of_ble_eq_true rfl,_,rfl⟩,fun x hx=>by
 simp only[Tok.cells,List.mem_cons,List.not_mem_nil,or_false]at hx
 rcases hx with rfl|rfl|rfl<;>exact .v _⟩
theorem stg_fac(f:Fac):StgR f.cells:=⟨⟨0,Nat.le_of_ble_eq_true rfl,_,rfl⟩,fun x hx=>by
 simp only[Fac.cells,List.mem_cons,List.not_mem_nil,or_false]at hx
 rcases hx with rfl|rfl<;>exact .v _⟩
theorem stg_fld(f:Fld):StgR f.cells:=⟨⟨0,Nat.le_of_ble_eq_true rfl,_,rfl⟩,fun x hx=>by
 simp only[Fld.cells,List.mem_cons,List.not_mem_nil,or_false]at hx
 rcases hx with rfl|rfl|rfl|rfl<;>first|exact .v _|exact stg_sl (stg_map stg_fac)⟩
theorem stg_tab(f:Tab):StgR f.cells:=⟨⟨0,Nat.le_of_ble_eq_true rfl,_,rfl⟩,fun x hx=>by
 simp only[Tab.cells,List.mem_cons,List.not_mem_nil,or_false]at hx
 rcases hx with rfl|rfl|rfl|rfl<;>first|exact .v _|exact stg_sl (stg_map stg_fld)⟩
theorem stg_ex:∀ (n:Nat) (x:Ex),x.size≤n→StgR x.cells
 |0,x,h=>by have:=Ex.size_pos x;omega
 |n+1,x,h=>by
  rw[congrFun Ex.cells_row x]
  refine⟨⟨1,Nat.le_of_ble_eq_true rfl,_,rfl⟩,fun y hy=> ?_⟩
  have ha:∀ r∈x.args.map Ex.cells,StgR r:=fun r hr=>by
   obtain⟨z,hz,rfl⟩:=List.mem_map.1 hr
   have h1:=Ex.sizeL_mem hz
   have h2:=Ex.size_args x
   exact stg_ex n z (by omega)
  simp only[Ex.row,List.mem_cons,List.not_mem_nil,or_false]at hy
  rcases hy with rfl|rfl|rfl|rfl|rfl|rfl|rfl|rfl|rfl|rfl|rfl|rfl<;>first|exact .v _|exact stg_sl (stg_map stg_fac)|exact stg_sl ha
theorem stg_fea(f:Fea):StgR f.cells:=⟨⟨0,Nat.le_of_ble_eq_true rfl,_,rfl⟩,fun x hx=>by
 have ha:∀ r∈f.body.args.map Ex.cells,StgR r:=stg_map fun x=>stg_ex _ x (Nat.le_refl _)
 simp only[Fea.cells,List.mem_cons,List.not_mem_nil,or_false]at hx
 rcases hx with rfl|rfl|rfl|rfl|rfl|rfl|rfl|rfl|rfl|rfl|rfl|rfl|rfl|rfl|rfl|rfl|rfl|rfl<;>first|exact .v _|exact stg_sl (stg_map stg_fac)|exact stg_sl ha⟩
theorem stg_rd(L:List Tok){b:Value}:Stg (.sl false 3 (L.map Tok.cells))∧Stg (.v b):=⟨stg_sl (stg_map stg_tok),.v _⟩
theorem stg_col{e t:Nat}{rows:List (List AV)}{x:AV}{τ:Store}(h:ColS e t rows x τ)(hr:∀ r∈rows,StgR r):Stg x∧∀ y∈τ,StgB y.2.2:=by
 rcases h with⟨_,rfl,rfl⟩|⟨_,b,u,c,rfl,rfl⟩
 ·exact⟨.v _,fun y hy=>by cases hy⟩
 ·exact⟨stg_own hr,fun y hy=>by rw[List.mem_singleton]at hy;subst hy;trivial⟩
def x9:AC:=match a9 with
 | .seq _ (.keep _ (.seq _ (.keep _ (.seq a _))))=>a
 |a=>a
def loop9:AC:=match a9 with
 | .seq _ (.keep _ (.seq _ (.keep _ (.seq _ (.keep _ (.seq _ (.keep _ (.seq b _))))))))=>b
 |a=>a
def tail9:AC:=match a9 with
 | .seq _ (.keep _ (.seq _ (.keep _ (.seq _ (.keep _ (.seq _ (.keep _ (.seq _ (.keep _ b)))))))))=>b
 |a=>a
def moduleV(s:Bs):AV:= .tup [.agg [.sl false 4 ((moduleP s).1.tables.map Tab.cells),.sl false 18 ((moduleP s).1.features.map Fea.cells)],.sl false 2 ((moduleP s).2.1.map Prb.cells),iv (moduleP s).2.2]
structure ModI(s:Bs)(L:List Tok)(m:Mdl)(bad:List Prb):Prop where
 g:Gd L
 r:modL L.length L m bad=modL N0 (toksL s).1 mdl0 (toksL s).2
 n:m.tables.length+m.features.length+bad.length+L.length≤30000
theorem erase9:a9.erase= .seq (.reg s9_0) (.seq (.reg s9_1) (.seq x9.erase (.seq (.reg s9_4) (.seq loop9.erase tail9.erase)))):=rfl
theorem filt_bad(badV:AV)(bm b0:Nat)(l:List (List AV)):filtO [2,3,5,6] [(2,.lp 2 bm 0),(3,badV),(5,.sl false 3 l),(6,.lp 1000 b0 0)]=some [(2,.lp 2 bm 0),(3,badV),(5,.sl false 3 l),(6,.lp 1000 b0 0)]:=by
 cases badV with
 |v x=>cases x<;>rfl
 |_=>rfl
theorem Wk.relab{e t t' b u c:Nat}{rows:List (List AV)}:Wk (.own e t b u c rows) (.own e t' b u c rows):=fun M v h=>by
 obtain⟨off,cap,cs,rfl,hr,h4,h5,h6,h8⟩:=h.of_own
 exact R.mk_own hr h4 h5 h6 h8
theorem WK_perm{P:Program}[Glob P]{N:Nat}{cfg:Nat→Nat}{Q:Exit→Regs→Store→Prop}{a:AC}{k:List Fr}{rg:Regs}{σ σ':Store}(hp:σ.Perm σ')(h:WK P N cfg Q a k rg σ'):WK P N cfg Q a k rg σ:=by
 refine⟨⟨rfl,?_⟩⟩
 intro cd hcd M w0 a w hI hR hN hD
 exact h.h.h cd hcd M w0 a w (hI.perm hp) hR hN hD
theorem perm_tb{α:Type}(a:α)(b l1 l2 l0:List α):(a::(b++(l1++l2++l0))).Perm (a::(l1++l2++(b++l0))):=
 .cons _ (List.perm_append_comm_assoc b (l1++l2) l0)
def Item2(b:Nat)(τ0 τb:Store)(m:Mdl)(x1 x2:AV)(τ1 τ2:Store)(r:PR Itm)(x:Res)(σ':Store):Prop:=match r with
 | .ok a L'=>∃ y1 y2 υ1 υ2,ModS (addI m a) y1 y2 υ1 υ2∧Gd L'∧x= .ret (.agg [iv 0,iv 0])∧σ'=(1000,b,.cells (rdC L' false++[y1,y2]))::(τb++(υ1++υ2++τ0))
 | .err p c=>x= .ret (.agg [iv p,iv c])∧∃ L' i',σ'=(1000,b,.cells (rdC L' i'++[x1,x2]))::(τb++(τ1++τ2++τ0))
theorem item_ok2(hN:NormOk)(hD:DecOk)(b0:Nat)(m:Mdl)(hm:m.tables.length≤100000∧m.features.length≤100000)(x1 x2:AV)(τ0 τb τ1 τ2:Store)(hS:ModS m x1 x2 τ1 τ2)(L:List Tok)(hL:Gd L):
  Sx.Spec Tryz.prog 25 [.lp 1000 b0 0] ((1000,b0,.cells (rdC L false++[x1,x2]))::(τb++(τ1++τ2++τ0))) (Item2 b0 τ0 τb m x1 x2 τ1 τ2 (itemP L)):=by
 refine Spec.permA (Spec.permR (item_ok hN hD b0 m hm x1 x2 (τb++τ0) τ1 τ2 hS L hL) fun x σ' h=> ?_) (perm_tb _ _ _ _ _)
 cases hit:itemP L with
 |ok a L'=>rw[hit]at h;obtain⟨y1,y2,υ1,υ2,h1,h2,h3,rfl⟩:=h;exact⟨_,(perm_tb _ _ _ _ _).symm,y1,y2,υ1,υ2,h1,h2,h3,rfl⟩
 |err p c=>rw[hit]at h;obtain⟨h1,L',i',rfl⟩:=h;exact⟨_,(perm_tb _ _ _ _ _).symm,h1,L',i',rfl⟩
theorem pos_item:Pos 1 itemP:=(Sm.item (alike_pre default [])).pos
theorem skip_step{x:Int}{L:List Tok}(h:1<L.length)(hc:(hd L).at_<x∨(hd L).kind≠5∨(hd L).text≠ch 59):skipTo x L=skipTo x L.tail:=by
 match L,h with
 |t::u::L,_=>exact if_pos hc
theorem skip_stop{x:Int}{L:List Tok}(h:¬(1<L.length∧((hd L).at_<x∨(hd L).kind≠5∨(hd L).text≠ch 59))):skipTo x L=L:=by
 match L with
 |[]=>rfl
 |[t]=>rfl
 |t::u::L=>exact if_neg fun hc=>h ⟨by simp,hc⟩
theorem ModI.ok{s:Bs}{L L':List Tok}{m:Mdl}{bad:List Prb}{a:Itm}(h:ModI s L m bad)(hi:itemP L= .ok a L')(hL':Gd L')(hk:(hd L).kind≠6):ModI s L' (addI m a) bad∧L'.length<L.length:=by
 obtain⟨h1,h2,h3⟩:=(pos_item L h.g.e).ok a L' hi
 have hr:=h.r
 have hn:=h.n
 obtain⟨k,hk2⟩:∃ k,L.length=k+1:=⟨L.length-1,by omega⟩
 rw[hk2,modL,if_neg hk,hi]at hr
 refine⟨⟨hL',?_,?_⟩,by omega⟩
 ·rw[modL_fuel L'.length k L' _ _ h2 (Nat.le_refl _) (by omega)];exact hr
 ·cases a with
  |tab t=>simp only[addI,List.length_append,List.length_singleton];omega
  |fea t=>simp only[addI,List.length_append,List.length_singleton];omega
theorem ModI.err{s:Bs}{L:List Tok}{m:Mdl}{bad:List Prb}{p c:Int}(h:ModI s L m bad)(hi:itemP L= .err p c)(hk:(hd L).kind≠6):c≠0∧ModI s (behindP p L) m (bad++[⟨p,c⟩])∧(behindP p L).length<L.length:=by
 obtain⟨_,h2⟩:=(pos_item L h.g.e).err p c hi
 obtain⟨h3,h4⟩:=behind_len (x:=p) h.g.e hk
 have hr:=h.r
 have hn:=h.n
 have hsuf:behindP p L <:+ L:=by
  obtain⟨g1,g2⟩:=skipTo_suf p L h.g.e.ne
  unfold behindP
  split
  ·exact(List.tail_suffix _).trans g1
  ·exact g1
 obtain⟨k,hk2⟩:∃ k,L.length=k+1:=⟨L.length-1,by omega⟩
 rw[hk2,modL,if_neg hk,hi]at hr
 refine⟨h2,⟨⟨h3,fun t ht=>h.g.t t (hsuf.subset ht),by have:=h.g.n;omega⟩,?_,by simp only[List.length_append,List.length_singleton];omega⟩,h4⟩
 rw[modL_fuel (behindP p L).length k _ _ _ h3 (Nat.le_refl _) (by omega)];exact hr
theorem ModI.fin{s:Bs}{L:List Tok}{m:Mdl}{bad:List Prb}(h:ModI s L m bad)(hk:(hd L).kind=6):(m,bad)=modL N0 (toksL s).1 mdl0 (toksL s).2:=by
 have hr:=h.r
 have hp:=h.g.pos
 obtain⟨k,hk2⟩:∃ k,L.length=k+1:=⟨L.length-1,by omega⟩
 rw[hk2,modL,if_pos hk]at hr
 exact hr
theorem module_loop(hN:NormOk)(hD:DecOk)(s:Bs)(b0 bm:Nat)(L:List Tok)(m:Mdl)(bad:List Prb)(hI:ModI s L m bad)(badV x1 x2:AV)(τ1 τ2 τb:Store)(hS:ModS m x1 x2 τ1 τ2)(hB:ColU 2 12 (bad.map Prb.cells) badV τb)(Q:Exit→Regs→Store→Prop)
  (hQ:∀ (m:Mdl) (bad:List Prb) (badV x1 x2 y1 y2:AV) (τ1 τ2 τb:Store),(m,bad)=modL N0 (toksL s).1 mdl0 (toksL s).2→ModS m x1 x2 τ1 τ2→ColU 2 12 (bad.map Prb.cells) badV τb→Stg y1∧Stg y2→bad.length≤30000→
   Q .normal [(2,.lp 2 bm 0),(3,badV),(6,.lp 1000 b0 0)] ((1000,b0,.cells ([y1,y2]++[x1,x2]))::(τb++(τ1++τ2++[(2,bm,.cells [nilS,nilS])])))):
  WK Tryz.prog c9.N (fun _=>0) (fun e rg σ'=>Q e (filt [2,3,6] rg) σ') loop9 [] [(2,.lp 2 bm 0),(3,badV),(5,.sl false 3 (L.map Tok.cells)),(6,.lp 1000 b0 0)]
   ((1000,b0,.cells ([nilS,.v (.bool false)]++[x1,x2]))::(τb++(τ1++τ2++[(2,bm,.cells [nilS,nilS])]))):=by
 show WK _ _ _ _ (.block 0 _) _ _ _
 refine WK_block ?_
 refine WK_loop (fun q rg σ'=>∃ (L:List Tok) (m:Mdl) (bad:List Prb) (badV x1 x2 y1 y2:AV) (τ1 τ2 τb:Store),ModI s L m bad∧q=L.length∧ModS m x1 x2 τ1 τ2∧ColU 2 12 (bad.map Prb.cells) badV τb∧(Stg y1∧Stg y2)∧
  σ'.Perm ((1000,b0,.cells ([y1,y2]++[x1,x2]))::(τb++(τ1++τ2++[(2,bm,.cells [nilS,nilS])])))∧rg=[(2,.lp 2 bm 0),(3,badV),(5,.sl false 3 (L.map Tok.cells)),(6,.lp 1000 b0 0)]) L.length (filt_bad _ _ _ _) ⟨_,_,Zr,Zs,L,m,bad,badV,x1,x2,nilS,.v (.bool false),τ1,τ2,τb,hI,rfl,hS,hB,⟨.v _,.v _⟩,.refl _,rfl⟩ ?_
 rintro q _ _ ⟨L,m,bad,badV,x1,x2,y1,y2,τ1,τ2,τb,hI,hq,hS,hB,hY,hP,rfl⟩
 refine WK_perm hP ?_
 have hL:=hI.g
 have hp:=hL.pos
 have hz:m.tables.length≤100000∧m.features.length≤100000:=by have:=hI.n;omega
 rcases hB with⟨h0,rfl,rfl⟩|⟨h0,b2,u2,c2,rfl,rfl,hu2⟩
 all_goals
  repeat'(first|exact .nil|refine .k0 ?_|refine .k1 ?_|refine .k2 ?_|refine .k3 ?_|refine .k6 ?_|refine .k8 ?_|refine .k9 ?_|(refine .cd ?_ ?_<;>(intro hc;skip))|refine .r1 ?_ ?_|refine .t1 ?_ ?_ ?_|refine .r8 ?_ ?_|fail)
 all_goals try any_goals exact fun _=>⟨Int.le_refl _,hp⟩
 ·have hk6:(hd L).kind≠6:=by rw[← hd_getD];simpa using hc
  refine VX_st (cs':=rdC L false++[x1,x2]) rfl rfl rfl rfl rfl ⟨rfl,by simp⟩ .nil ?_
  rw[upt_hd]
  obtain rfl:bad=[]:=List.map_eq_nil_iff.1 h0
  repeat'(first|exact .nil|refine .k0 ?_|refine .k1 ?_|refine .k2 ?_|refine .r1 ?_ ?_|fail)
  refine VX_spec rfl (item_ok2 hN hD b0 m hz x1 x2 [(2,bm,.cells [nilS,nilS])] [] τ1 τ2 hS L hL) .nil (fun x σ' hR=> ?_) (fun ch σ' hR=> ?_)
  ·cases hit:itemP L with
   |ok a L'=>
    rw[hit]at hR
    obtain⟨z1,z2,υ1,υ2,hS',hL',e1,rfl⟩:=hR
    cases e1
    repeat'(first|exact .nil|refine .k0 ?_|refine .k1 ?_|refine .k2 ?_|refine .k6 ?_|refine .k8 ?_|refine .k9 ?_|(refine .cd ?_ ?_<;>(intro hc;skip))|refine .r1 ?_ ?_|(refine .l1 ?_;intro b)|refine .u1 ?_ ?_ ?_ (fun b u c=> ?_)|fail)
    all_goals try any_goals exact absurd hc (by decide)
    have hnx:=hI.ok hit hL' hk6
    exact⟨L'.length,by rw[hq];exact hnx.2,_,_,Zr,Zs,L',addI m a,[],nilS,z1,z2,_,_,υ1,υ2,[],hnx.1,rfl,hS',.inl ⟨rfl,rfl,rfl⟩,stg_rd L',.refl _,rfl⟩
   |err pp cc=>
    rw[hit]at hR
    obtain⟨e1,L',i',rfl⟩:=hR
    cases e1
    have hnx1:=(hI.err hit hk6).1
    have hnx2:=(hI.err hit hk6).2
    clear hQ hP
    repeat'((fail_if_success (show VX _ _ (⟨_,.append _ _ _ _ _ _,_⟩::_) _ _ _ _));(first|exact .nil|refine .k0 ?_|refine .k1 ?_|refine .k2 ?_|refine .k8 ?_|refine .k9 ?_|(refine .cd ?_ ?_<;>(intro hc;skip))|refine .r1 ?_ ?_|(refine .l1 ?_;intro b)|fail))
    ·exact absurd (of_decide_eq_true hc) hnx1
    ·exact Nat.le_of_ble_eq_true rfl
    refine VX_app0u rfl rfl ?_ ?_ ?_ (fun b9 u9 c9 hu9=> ?_)
    ·exact .nil
    ·exact List.cons_ne_nil _ _
    ·exact Nat.le_of_ble_eq_true rfl
    have hrw:(([]:List Prb)).map Prb.cells++[[iv pp,iv cc]]=(([]:List Prb)++[(⟨pp,cc⟩:Prb)]).map Prb.cells:=by rw[List.map_append];rfl
    repeat'((fail_if_success (show WK _ _ _ _ (.loop _) _ _ _));(first|exact .nil|refine .k0 ?_|refine .k1 ?_|refine .k6 ?_|refine .r1 ?_ ?_|fail))
    refine WK_loop (fun q rg σ'=>∃ L2:List Tok,L2.length≤20000∧q=L2.length∧skipTo pp L2=skipTo pp L∧σ'=(48,b9,.tail u9 c9)::(7,b,.cells [iv pp,iv cc])::(1000,b0,.cells (rdC L' i'++[x1,x2]))::([]++(τ1++τ2++[(2,bm,.cells [nilS,nilS])]))∧
     rg=[(2,.lp 2 bm 0),(3,.own 2 48 b9 u9 c9 [[iv pp,iv cc]]),(5,.sl false 3 (L2.map Tok.cells)),(6,.lp 1000 b0 0),(7,.lp 7 b 0)]) L.length rfl ⟨_,_,Zr,Zs,L,hL.n,rfl,rfl,rfl,rfl⟩ ?_
    rintro q3 _ _ ⟨L2,hn2,hq3,hsk,rfl,rfl⟩
    repeat'(first|exact .nil|refine .k0 ?_|refine .k1 ?_|refine .k2 ?_|refine .k3 ?_|refine .k4 ?_|refine .k5 ?_|refine .k6 ?_|refine .k8 ?_|refine .k9 ?_|(refine .cd ?_ ?_<;>(intro hc;skip))|refine .r1 ?_ ?_|(refine .m2 ?_ ?_;intro hlen)|refine .t1 ?_ ?_ ?_|refine .t3 ?_ ?_ ?_|refine .r2 ?_ ?_|fail)
    all_goals(try simp only[BL]at *)
    ·omega
    ·have hc2:=hc.2
     simp only[hd_getD]at hc2
     exact⟨L2.tail.length,by rw[List.length_tail];omega,_,_,Zr,Zs,L2.tail,by rw[List.length_tail];omega,rfl,by rw[← skip_step (by omega) (by rcases hc2 with(h|h)|h;exact .inl h;exact .inr (.inl h);exact .inr (.inr h))];exact hsk,rfl,by rw[List.drop_one]⟩
    ·omega
    ·rename_i hc2
     simp only[hd_getD]at hc2
     have hst:=skip_stop (x:=pp) (L:=L2) (by rintro⟨h1,h2⟩;rcases hc2 with h3|⟨⟨h3,h4⟩,h5⟩;omega;rcases h2 with h2|h2|h2;omega;exact h2 h4;exact h2 h5)
     have hbeh:behindP pp L=List.drop 1 L2:=by unfold behindP;rw[← hsk,hst,if_pos (by omega),List.drop_one]
     exact⟨(behindP pp L).length,by rw[hq];exact hnx2.2,_,(12,b9,.tail u9 c9)::(1000,b0,.cells (rdC L' i'++[x1,x2]))::([]++(τ1++τ2++[(2,bm,.cells [nilS,nilS])])),(.cons (.refl _) (.cons Wk.relab (.cons (.ofeq (by rw[hbeh])) (.cons (.refl _) .nil)))),(.same (.cons (.refl _))),behindP pp L,m,([]:List Prb)++[(⟨pp,cc⟩:Prb)],.own 2 12 b9 u9 c9 ((([]:List Prb)++[(⟨pp,cc⟩:Prb)]).map Prb.cells),x1,x2,_,_,τ1,τ2,[(12,b9,.tail u9 c9)],hnx2.1,rfl,hS,.inr ⟨by simp,b9,u9,c9,rfl,rfl,by rw[hu9];rfl⟩,stg_rd L',.swap _ _ _,rfl⟩
    ·have hst:=skip_stop (x:=pp) (L:=L2) (by rintro⟨h1,h2⟩;omega)
     have hbeh:behindP pp L=L2:=by unfold behindP;rw[← hsk,hst,if_neg (by omega)]
     exact⟨(behindP pp L).length,by rw[hq];exact hnx2.2,_,(12,b9,.tail u9 c9)::(1000,b0,.cells (rdC L' i'++[x1,x2]))::([]++(τ1++τ2++[(2,bm,.cells [nilS,nilS])])),(.cons (.refl _) (.cons Wk.relab (.cons (.ofeq (by rw[hbeh])) (.cons (.refl _) .nil)))),(.same (.cons (.refl _))),behindP pp L,m,([]:List Prb)++[(⟨pp,cc⟩:Prb)],.own 2 12 b9 u9 c9 ((([]:List Prb)++[(⟨pp,cc⟩:Prb)]).map Prb.cells),x1,x2,_,_,τ1,τ2,[(12,b9,.tail u9 c9)],hnx2.1,rfl,hS,.inr ⟨by simp,b9,u9,c9,rfl,rfl,by rw[hu9];rfl⟩,stg_rd L',.swap _ _ _,rfl⟩
    all_goals(intro h;omega)
  ·cases hit:itemP L with
   |ok a L'=>rw[hit]at hR;obtain⟨_,_,_,_,_,_,e1,_⟩:=hR;cases e1
   |err p c=>rw[hit]at hR;obtain⟨e1,_⟩:=hR;cases e1
 ·have hk6:(hd L).kind=6:=by rw[← hd_getD];simpa using hc
  refine hQ m bad _ x1 x2 y1 y2 τ1 τ2 [] (hI.fin hk6) hS (.inl ⟨h0,rfl,rfl⟩) hY (by have:=hI.n;omega)
 ·have hk6:(hd L).kind≠6:=by rw[← hd_getD];simpa using hc
  refine VX_st (cs':=rdC L false++[x1,x2]) rfl rfl rfl rfl rfl ⟨rfl,by simp⟩ .nil ?_
  rw[upt_hd]
  repeat'(first|exact .nil|refine .k0 ?_|refine .k1 ?_|refine .k2 ?_|refine .r1 ?_ ?_|fail)
  refine VX_spec rfl (item_ok2 hN hD b0 m hz x1 x2 [(2,bm,.cells [nilS,nilS])] [(12,b2,.tail u2 c2)] τ1 τ2 hS L hL) .nil (fun x σ' hR=> ?_) (fun ch σ' hR=> ?_)
  ·cases hit:itemP L with
   |ok a L'=>
    rw[hit]at hR
    obtain⟨z1,z2,υ1,υ2,hS',hL',e1,rfl⟩:=hR
    cases e1
    repeat'(first|exact .nil|refine .k0 ?_|refine .k1 ?_|refine .k2 ?_|refine .k6 ?_|refine .k8 ?_|refine .k9 ?_|(refine .cd ?_ ?_<;>(intro hc;skip))|refine .r1 ?_ ?_|(refine .l1 ?_;intro b)|refine .u2 ?_ ?_ ?_ (fun b u c=> ?_)|(show List.all _ _=true;rfl)|fail)
    all_goals try any_goals exact absurd hc (by decide)
    have hnx:=hI.ok hit hL' hk6
    exact⟨L'.length,by rw[hq];exact hnx.2,_,_,Zr,Zs,L',addI m a,bad,.own 2 12 b2 u2 c2 (bad.map Prb.cells),z1,z2,_,_,υ1,υ2,[(12,b2,.tail u2 c2)],hnx.1,rfl,hS',.inr ⟨h0,b2,u2,c2,rfl,rfl,hu2⟩,stg_rd L',.refl _,rfl⟩
   |err pp cc=>
    rw[hit]at hR
    obtain⟨e1,L',i',rfl⟩:=hR
    cases e1
    have hnx1:=(hI.err hit hk6).1
    have hnx2:=(hI.err hit hk6).2
    clear hQ hP
    repeat'((fail_if_success (show VX _ _ (⟨_,.append _ _ _ _ _ _,_⟩::_) _ _ _ _));(first|exact .nil|refine .k0 ?_|refine .k1 ?_|refine .k2 ?_|refine .k8 ?_|refine .k9 ?_|(refine .cd ?_ ?_<;>(intro hc;skip))|refine .r1 ?_ ?_|(refine .l1 ?_;intro b)|fail))
    ·exact absurd (of_decide_eq_true hc) hnx1
    ·exact Nat.le_of_ble_eq_true rfl
    refine VX_appu rfl rfl rfl ?_ ?_ ?_ (fun b9 u9 c9 hu9=> ?_)
    ·exact .nil
    ·show(_+1) * 16≤_;rw[List.length_map];have:=hI.n;omega
    ·rfl
    have hrw:bad.map Prb.cells++[[iv pp,iv cc]]=(bad++[(⟨pp,cc⟩:Prb)]).map Prb.cells:=by rw[List.map_append];rfl
    repeat'((fail_if_success (show WK _ _ _ _ (.loop _) _ _ _));(first|exact .nil|refine .k0 ?_|refine .k1 ?_|refine .k6 ?_|refine .r1 ?_ ?_|fail))
    refine WK_loop (fun q rg σ'=>∃ L2:List Tok,L2.length≤20000∧q=L2.length∧skipTo pp L2=skipTo pp L∧σ'=(7,b,.cells [iv pp,iv cc])::(1000,b0,.cells (rdC L' i'++[x1,x2]))::([(12,b9,.tail u9 c9)]++(τ1++τ2++[(2,bm,.cells [nilS,nilS])]))∧
     rg=[(2,.lp 2 bm 0),(3,.own 2 12 b9 u9 c9 (bad.map Prb.cells++[[iv pp,iv cc]])),(5,.sl false 3 (L2.map Tok.cells)),(6,.lp 1000 b0 0),(7,.lp 7 b 0)]) L.length rfl ⟨_,_,Zr,Zs,L,hL.n,rfl,rfl,rfl,rfl⟩ ?_
    rintro q3 _ _ ⟨L2,hn2,hq3,hsk,rfl,rfl⟩
    repeat'(first|exact .nil|refine .k0 ?_|refine .k1 ?_|refine .k2 ?_|refine .k3 ?_|refine .k4 ?_|refine .k5 ?_|refine .k6 ?_|refine .k8 ?_|refine .k9 ?_|(refine .cd ?_ ?_<;>(intro hc;skip))|refine .r1 ?_ ?_|(refine .m2 ?_ ?_;intro hlen)|refine .t1 ?_ ?_ ?_|refine .t3 ?_ ?_ ?_|refine .r2 ?_ ?_|fail)
    all_goals(try simp only[BL]at *)
    ·omega
    ·have hc2:=hc.2
     simp only[hd_getD]at hc2
     exact⟨L2.tail.length,by rw[List.length_tail];omega,_,_,Zr,Zs,L2.tail,by rw[List.length_tail];omega,rfl,by rw[← skip_step (by omega) (by rcases hc2 with(h|h)|h;exact .inl h;exact .inr (.inl h);exact .inr (.inr h))];exact hsk,rfl,by rw[List.drop_one]⟩
    ·omega
    ·rename_i hc2
     simp only[hd_getD]at hc2
     have hst:=skip_stop (x:=pp) (L:=L2) (by rintro⟨h1,h2⟩;rcases hc2 with h3|⟨⟨h3,h4⟩,h5⟩;omega;rcases h2 with h2|h2|h2;omega;exact h2 h4;exact h2 h5)
     have hbeh:behindP pp L=List.drop 1 L2:=by unfold behindP;rw[← hsk,hst,if_pos (by omega),List.drop_one]
     exact⟨(behindP pp L).length,by rw[hq];exact hnx2.2,_,(1000,b0,.cells (rdC L' i'++[x1,x2]))::([(12,b9,.tail u9 c9)]++(τ1++τ2++[(2,bm,.cells [nilS,nilS])])),(.cons (.refl _) (.cons (.ofeq (by rw[hrw])) (.cons (.ofeq (by rw[hbeh])) (.cons (.refl _) .nil)))),(.cons (.refl _)),behindP pp L,m,bad++[(⟨pp,cc⟩:Prb)],.own 2 12 b9 u9 c9 ((bad++[(⟨pp,cc⟩:Prb)]).map Prb.cells),x1,x2,_,_,τ1,τ2,[(12,b9,.tail u9 c9)],hnx2.1,rfl,hS,.inr ⟨by simp,b9,u9,c9,rfl,rfl,by rw[hu9 hu2];simp⟩,stg_rd L',.refl _,rfl⟩
    ·have hst:=skip_stop (x:=pp) (L:=L2) (by rintro⟨h1,h2⟩;omega)
     have hbeh:behindP pp L=L2:=by unfold behindP;rw[← hsk,hst,if_neg (by omega)]
     exact⟨(behindP pp L).length,by rw[hq];exact hnx2.2,_,(1000,b0,.cells (rdC L' i'++[x1,x2]))::([(12,b9,.tail u9 c9)]++(τ1++τ2++[(2,bm,.cells [nilS,nilS])])),(.cons (.refl _) (.cons (.ofeq (by rw[hrw])) (.cons (.ofeq (by rw[hbeh])) (.cons (.refl _) .nil)))),(.cons (.refl _)),behindP pp L,m,bad++[(⟨pp,cc⟩:Prb)],.own 2 12 b9 u9 c9 ((bad++[(⟨pp,cc⟩:Prb)]).map Prb.cells),x1,x2,_,_,τ1,τ2,[(12,b9,.tail u9 c9)],hnx2.1,rfl,hS,.inr ⟨by simp,b9,u9,c9,rfl,rfl,by rw[hu9 hu2];simp⟩,stg_rd L',.refl _,rfl⟩
    all_goals(intro h;omega)
  ·cases hit:itemP L with
   |ok a L'=>rw[hit]at hR;obtain⟨_,_,_,_,_,_,e1,_⟩:=hR;cases e1
   |err p c=>rw[hit]at hR;obtain⟨e1,_⟩:=hR;cases e1
 ·have hk6:(hd L).kind=6:=by rw[← hd_getD];simpa using hc
  refine hQ m bad _ x1 x2 y1 y2 τ1 τ2 [(12,b2,.tail u2 c2)] (hI.fin hk6) hS (.inr ⟨h0,b2,u2,c2,rfl,rfl,hu2⟩) hY (by have:=hI.n;omega)
theorem module_long(src:List UInt8)(hl:16384<src.length)(nn:Bool):Pure Tryz.prog 9 [.sl nn 1 (src.map byteRow)] (moduleV src):=by
 refine Pure.runk (fun _=>0) Tryz.func9 comp9 era9 (Nat.le_of_ble_eq_true rfl) fun σ=> ?_
 repeat'(first|exact .nil|refine .k0 ?_|refine .k1 ?_|refine .k2 ?_|refine .r1 ?_ ?_|(refine .l1 ?_;intro b)|fail)
 have f1:(!decide ((2:Int)=0))=true:=by decide
 refine VX_spec rfl (tokens_long src hl nn _) .nil (fun x σ' hR=> ?_) (fun ch σ' hR=>absurd hR.1 (by nofun))
 obtain⟨e,rfl⟩:=hR
 cases e
 repeat'(first|exact .nil|refine .k0 ?_|refine .k1 ?_|refine .k2 ?_|refine .k4 ?_|refine .k7 ?_|(refine .cd ?_ ?_<;>(intro hc;first|exact kf hc (by assumption)|skip))|refine .r1 ?_ ?_|refine .r8 ?_ ?_|fail)
 unfold moduleV moduleP
 rw[if_pos hl]
 exact⟨.tup (.cons (.agg (.cons .nil (.cons .nil .nil))) (.cons .nil (.cons (.refl _) .nil))),Zs⟩
theorem moduleV_eq{s:Bs}(hl:¬16384<s.length){m:Mdl}{bad:List Prb}(h:(m,bad)=modL N0 (toksL s).1 mdl0 (toksL s).2):moduleV s= .tup [.agg [.sl false 4 (m.tables.map Tab.cells),.sl false 18 (m.features.map Fea.cells)],.sl false 2 (((sortP bad).take 32).map Prb.cells),iv 0]:=by
 unfold moduleV moduleP
 rw[if_neg hl]
 simp only
 rw[show(⟨[],[]⟩:Mdl)=mdl0 from rfl,← h]
theorem col_wk{e t:Nat}{rows:List (List AV)}{x:AV}{τ:Store}(h:ColS e t rows x τ):Wk x (.sl false e rows):=by
 rcases h with⟨h0,rfl,rfl⟩|⟨_,b,u,c,rfl,rfl⟩
 ·rw[h0];exact .nil
 ·exact .own false
theorem perm_box{α:Type}(a e:α)(l1 l2 l0:List α):(a::((l1++l2++[e])++l0)).Perm (e::a::(l1++l2++l0)):=by
 refine(List.Perm.cons a ?_).trans (.swap _ _ _)
 rw[List.append_assoc]
 exact List.perm_middle
theorem take32_rows(l:List Prb):List.drop ((none:Option Int).getD 0).toNat (List.take ((some (if(true:Bool)=true then if(32:Int)<(l.length:Int)then 32 else(l.length:Int)else if(32:Int)>(l.length:Int)then 32 else(l.length:Int))).getD ((l.map Prb.cells).length:Int)).toNat (l.map Prb.cells))=(l.take 32).map Prb.cells:=by
 simp only[Option.getD_none,Option.getD_some,if_true,Int.toNat_zero,List.drop_zero,List.map_take]
 split
 ·rfl
 ·rename_i h
  rw[Int.toNat_natCast,List.take_of_length_le (by simp),List.take_of_length_le (by simp;omega)]
theorem module_tail(src:List UInt8)(hl:¬16384<src.length)(m:Mdl)(bad:List Prb)(hm:(m,bad)=modL N0 (toksL src).1 mdl0 (toksL src).2)(hb:bad.length≤30000)(badV x1 x2 y1 y2:AV)(τ1 τ2 τb σ:Store)(hS:ModS m x1 x2 τ1 τ2)
  (hC:ColU 2 12 (bad.map Prb.cells) badV τb) (hY:Stg y1∧Stg y2) (b0 bm:Nat):
  SWT c9.N σ tail9.erase (pureQ c9.res (moduleV src) σ) [(2,.lp 2 bm 0),(3,badV),(6,.lp 1000 b0 0)] ((1000,b0,.cells ([y1,y2]++[x1,x2]))::(τb++(τ1++τ2++[(2,bm,.cells [nilS,nilS])]))):=by
 rw[moduleV_eq hl hm]
 obtain⟨g1,g2⟩:=stg_col hS.t (stg_map stg_tab)
 obtain⟨g3,g4⟩:=stg_col hS.f (stg_map stg_fea)
 have w1:=col_wk hS.t
 have w2:=col_wk hS.f
 rcases hC with⟨h0,rfl,rfl⟩|⟨h0,b2,u2,c2,rfl,rfl,hu2⟩
 ·obtain rfl:bad=[]:=List.map_eq_nil_iff.1 h0
  refine SWT.done ?_
  refine SW_k (a:=tail9) (cfg:=fun _=>0) ?_
  refine WK_perm (σ':=(2,bm,.cells [nilS,nilS])::(1000,b0,.cells [y1,y2,x1,x2])::(τ1++τ2++σ)) (perm_box _ _ _ _ _) ?_
  obtain⟨ht,hf⟩:=hS
  rcases ht with⟨_,rfl,rfl⟩|⟨_,b7,u7,c7,rfl,rfl⟩<;>rcases hf with⟨_,rfl,rfl⟩|⟨_,b8,u8,c8,rfl,rfl⟩
  all_goals
   show WK _ _ _ _ (.seq (.reg _) (.keep _ _)) _ _ _
   repeat'((fail_if_success (show WK _ _ _ _ (.seq (.mreg _ _) _) _ _ _));(first|exact .nil|refine .k0 ?_|refine .k1 ?_|refine .k2 ?_|refine .r1 ?_ ?_|refine .an rfl (by intro hob;exact sort0_ok) ?_ ?_|fail))
   refine WK_wk (rg':=[(2,.lp 2 bm 0),(3,.sl false 2 []),(6,.lp 1000 b0 0)]) ?_ (.cons (.refl _) (.cons .nil (.cons (.refl _) .nil))) (.refl _)
   repeat'(first|exact .nil|refine .k0 ?_|refine .k1 ?_|refine .k3 ?_|refine .k7 ?_|refine .r1 ?_ ?_|refine .r3 ?_ ?_|refine .r8 ?_ ?_|fail)
  all_goals first|(refine⟨rfl,Int.le_refl _,?_⟩;simp only[Option.getD_none,Option.getD_some,List.length_map,List.length_nil,if_true];split<;>omega)|exact⟨.tup (.cons (.agg (.cons w1 (.cons w2 .nil))) (.cons (.refl _) (.cons (.refl _) .nil))),Zs⟩|fail
 ·have hn:bad≠[]:=fun e=>h0 (by rw[e];rfl)
  obtain rfl:u2=bad.length * 2:=by rw[hu2,List.length_map]
  refine SWT.thaw (ks:=[(2,.lp 2 bm 0),(6,.lp 1000 b0 0)]) (τ:=(1000,b0,.cells ([y1,y2]++[x1,x2]))::(τ1++τ2++[(2,bm,.cells [nilS,nilS])])) bad 3 12 b2 c2 12 hn rfl (.swap _ _ _) ?_ ?_ fun cap post hc1 hc2=> ?_
  ·intro e he
   rcases List.mem_cons.1 he with rfl|he
   ·intro i hi
    match i,hi with
    |0,_=>exact hY.1
    |1,_=>exact hY.2
    |2,_=>exact g1
    |3,_=>exact g3
   ·rcases List.mem_append.1 he with he|he
    ·rcases List.mem_append.1 he with he|he
     ·exact g2 e he
     ·exact g4 e he
    ·rw[List.mem_singleton]at he
     subst he
     intro i hi
     match i,hi with
     |0,_=>exact .v _
     |1,_=>exact .v _
  ·intro q hq
   simp only[List.mem_cons,List.not_mem_nil,or_false]at hq
   rcases hq with rfl|rfl
   ·exact⟨rfl,.lp _ _ _⟩
   ·exact⟨rfl,.lp _ _ _⟩
  ·have hsl:(sortP bad).length=bad.length:=sortP_length bad
   refine SW_k (a:=tail9) (cfg:=fun _=>0) ?_
   show WK _ _ _ _ (.seq (.reg _) (.keep _ _)) _ _ _
   repeat'(first|exact .nil|refine .k1 ?_|refine .k2 ?_|refine .r1 ?_ ?_|fail)
   refine VX_spec rfl (sort_spec bad hn (by omega) b2 cap post _) .nil (fun x σ' hR=> ?_) (fun ch σ' hR=> ?_)
   ·obtain⟨e1,rfl⟩:=hR
    cases e1
    repeat'((fail_if_success (show WK _ _ _ _ (.seq (.mreg _ _) _) _ _ _));(first|refine .k0 ?_|refine .k1 ?_|fail))
    refine WK_frzn (rows:=(sortP bad).map Prb.cells) (e:=2) .here ?_ ?_ ⟨hc1,hc2⟩ (.same (.m (.same .nil))) ?_
    ·intro r hr;obtain⟨p,_,rfl⟩:=List.mem_map.1 hr;rfl
    ·rw[List.length_map,hsl]
    refine WK_perm (σ':=(2,bm,.cells [nilS,nilS])::(1000,b0,.cells [y1,y2,x1,x2])::(τ1++τ2++σ)) (perm_box _ _ _ _ _) ?_
    obtain⟨ht,hf⟩:=hS
    rcases ht with⟨_,rfl,rfl⟩|⟨_,b7,u7,c7,rfl,rfl⟩<;>rcases hf with⟨_,rfl,rfl⟩|⟨_,b8,u8,c8,rfl,rfl⟩
    all_goals
     repeat'(first|exact .nil|refine .k0 ?_|refine .k1 ?_|refine .k3 ?_|refine .k7 ?_|refine .r1 ?_ ?_|refine .r2 ?_ ?_|refine .r8 ?_ ?_|fail)
    all_goals first|(refine⟨rfl,Int.le_refl _,?_⟩;simp only[Option.getD_none,Option.getD_some,List.length_map,List.length_nil,if_true];split<;>omega)|exact⟨.tup (.cons (.agg (.cons w1 (.cons w2 .nil))) (.cons (.ofeq (congrArg (AV.sl false 2) (take32_rows _))) (.cons (.refl _) .nil))),Zs⟩
   ·obtain⟨e1,_⟩:=hR;cases e1
theorem module_mid(hG:GreatOk)(hA:AnyOk)(hN:NormOk)(hD:DecOk)(src:List UInt8)(hl:¬16384<src.length)(nn:Bool):Pure Tryz.prog 9 [.sl nn 1 (src.map byteRow)] (moduleV src):=by
 refine Pure.runk (fun _=>0) Tryz.func9 comp9 era9 (Nat.le_of_ble_eq_true rfl) fun σ=> ?_
 refine⟨⟨rfl,?_⟩⟩
 show SW _ _ (a9.erase) _ _ _
 rw[erase9]
 have hGd:Gd (toksL src).1:=toks_gd (by omega)
 have hp:=hGd.pos
 refine SWT.start (SWT.seq (by intro l h;cases h) ?_)
 refine SW_k (a:= .reg s9_0) (cfg:=fun _=>0) ?_
 repeat'(first|exact .nil|refine .k1 ?_|refine .k2 ?_|refine .k3 ?_|refine .r1 ?_ ?_|(refine .l1 ?_;intro b)|fail)
 rename Nat=>bm
 refine⟨rfl,SWT.filt (rg':=[(0,.sl nn 1 (src.map byteRow)),(2,.lp 2 bm 0)]) [0,2] rfl (SWT.seq (by intro l h;cases h) ?_)⟩
 refine SW_k (a:= .reg s9_1) (cfg:=fun _=>0) ?_
 repeat'(first|exact .nil|refine .k2 ?_|refine .r1 ?_ ?_|fail)
 have g1:(!decide ((0:Int)=0))=false:=by decide
 have g3:decide (((toksL src).1.length:Int)=0)=false:=decide_eq_false (by omega)
 have hI:ModI src (toksL src).1 mdl0 (toksL src).2:=by
  refine⟨hGd,modL_fuel _ _ _ _ _ hGd.e (Nat.le_refl _) (by have:=hGd.n;show _≤1000000;omega),?_⟩
  have h1:(toksL src).2.length≤32:=by unfold toksL;simp only[List.length_take];omega
  have h2:=hGd.n
  show 0+0+_+_≤_;omega
 have key:∀ (badV:AV) (τb:Store),ColU 2 12 ((toksL src).2.map Prb.cells) badV τb→SWT c9.N σ (.seq x9.erase (.seq (.reg s9_4) (.seq loop9.erase tail9.erase))) (pureQ c9.res (moduleV src) σ) [(2,.lp 2 bm 0),(3,badV),(4,iv 0),(5,.sl false 3 ((toksL src).1.map Tok.cells))] (τb++[(2,bm,.cells [nilS,nilS])]):=by
  intro badV τb hC
  refine SWT.seq (fun l h=>nomatch (show(SC.seq _ _:SC)= .dreg l from h)) ?_
  have key2:SWT c9.N σ (.seq (.reg s9_4) (.seq loop9.erase tail9.erase)) (pureQ c9.res (moduleV src) σ) [(2,.lp 2 bm 0),(3,badV),(5,.sl false 3 ((toksL src).1.map Tok.cells))] (τb++[(2,bm,.cells [nilS,nilS])]):=by
   refine SWT.seq (by intro l h;cases h) ?_
   refine SW_k (a:= .reg s9_4) (cfg:=fun _=>0) ?_
   repeat'(first|exact .nil|refine .k1 ?_|refine .k2 ?_|refine .k3 ?_|refine .r1 ?_ ?_|(refine .m1 ?_ ?_;intro b)|fail)
   rename Nat=>b0
   refine⟨rfl,SWT.filt (rg':=[(2,.lp 2 bm 0),(3,badV),(5,.sl false 3 ((toksL src).1.map Tok.cells)),(6,.lp 24 b0 0)]) [2,3,5,6] rfl (SWT.wk (rg':=[(2,.lp 2 bm 0),(3,badV),(5,.sl false 3 ((toksL src).1.map Tok.cells)),(6,.lp 1000 b0 0)]) (σ2:=(1000,b0,.cells [nilS,.v (.bool false),nilS,nilS])::(τb++[(2,bm,.cells [nilS,nilS])])) (.cons (.refl _) (.cons (.refl _) (.cons (.refl _) (.cons .lp .nil)))) (.same (.refl _)) ?_)⟩
   refine SWT.seq (fun l h=>nomatch (show(SC.block _ _:SC)= .dreg l from h)) ?_
   have hlp:=module_loop hN hD src b0 bm _ mdl0 _ hI badV nilS nilS [] [] τb ⟨.inl ⟨rfl,rfl,rfl⟩,.inl ⟨rfl,rfl,rfl⟩⟩ hC (fun e rg σ'=>e= .normal∧SWT c9.N σ tail9.erase (pureQ c9.res (moduleV src) σ) rg σ')
    fun m bad badV x1 x2 y1 y2 τ1 τ2 τb h1 h2 h3 h4 h5=>⟨rfl,module_tail src hl m bad h1 h5 badV x1 x2 y1 y2 τ1 τ2 τb σ h2 h3 h4 b0 bm⟩
   exact(SW_k hlp).mono fun e rg σ' h=>⟨h.1,SWT.filt [2,3,6] rfl h.2⟩
  rcases hC with⟨h0,rfl,rfl⟩|⟨h0,b2,u2,c2,rfl,rfl,_⟩
  all_goals
   refine SW_k (a:=x9) (cfg:=fun _=>0) ?_
   show WK _ _ _ _ (.seq (.reg _) (.keep _ _)) _ _ _
   repeat'(first|exact .nil|refine .k0 ?_|refine .k1 ?_|refine .k2 ?_|refine .k3 ?_|refine .k9 ?_|(refine .cd ?_ ?_<;>(intro hc;first|exact kt hc (by assumption)|skip))|refine .r1 ?_ ?_|(refine .m2 ?_ ?_;intro hlen)|fail)
  all_goals exact⟨rfl,SWT.filt [2,3,5] rfl key2⟩
 refine VX_spec rfl (tokens_ok hG hA src (by omega) nn _) .nil (fun x σ' hR=> ?_) (fun ch σ' hR=> ?_)
 ·obtain⟨badV,τb,hC,e,rfl⟩:=hR
  cases e
  have hk:=key badV τb hC
  rcases hC with⟨h0,rfl,rfl⟩|⟨h0,b2,u2,c2,rfl,rfl,_⟩
  all_goals
   repeat'(first|exact .nil|refine .k1 ?_|refine .k3 ?_|refine .r1 ?_ ?_|fail)
   exact⟨rfl,SWT.filt [2,3,4,5] rfl hk⟩
 ·obtain⟨_,_,_,e,_⟩:=hR;cases e
theorem module_ok(hG:GreatOk)(hA:AnyOk)(hN:NormOk)(hD:DecOk)(src:List UInt8)(nn:Bool):Pure Tryz.prog 9 [.sl nn 1 (src.map byteRow)] (moduleV src):=by
 by_cases hl:16384<src.length
 ·exact module_long src hl nn
 ·exact module_mid hG hA hN hD src hl nn
theorem exprA(s:List UInt8)(nn:Bool):Pure Tryz.prog 10 [.sl nn 1 (s.map byteRow)] (exprV s):=exprS_ok greatOk anyOk normOk decOk s nn fun h=>toks_gd h
theorem typeA(s:List UInt8)(nn:Bool):Pure Tryz.prog 11 [.sl nn 1 (s.map byteRow)] (typeV s):=typeS_ok greatOk anyOk normOk s nn fun h=>toks_gd h
theorem moduleA(s:List UInt8)(nn:Bool):Pure Tryz.prog 9 [.sl nn 1 (s.map byteRow)] (moduleV s):=module_ok greatOk anyOk normOk decOk s nn
def useX(s:Str):Ex:= .mk 3 ⟨#[]⟩ s ⟨#[]⟩ v0 [] 0 w0 []
def wholeX(n:Int):Ex:= .mk 1 ⟨#[]⟩ ⟨#[]⟩ ⟨#[]⟩ ⟨2,n,⟨#[]⟩⟩ [] 0 w0 []
def twoX(op:Str)(a b:Ex):Ex:= .mk 7 op ⟨#[]⟩ ⟨#[]⟩ v0 [] 0 w0 [a,b]
def yesX:Ex:= .mk 1 ⟨#[]⟩ ⟨#[]⟩ ⟨#[]⟩ ⟨1,1,⟨#[]⟩⟩ [] 0 w0 []
def srcA:List UInt8:=[49,32,43,32,50,32,42,32,97]
def srcB:List UInt8:=[97,32,100,101,102,97,117,108,116,32,98,32,100,101,102,97,117,108,116,32,49,46,53]
def srcC:List UInt8:=[99,111,117,110,116,40,116,44,32,97,108,108,32,119,104,101,114,101,32,120,41]
def srcD:List UInt8:=[97,32,60,32,98,32,60,32,99]
def srcE:List UInt8:=[99,111,117,110,116,40,116,44,32,97,108,108]
def srcF:List UInt8:=[49,32,91,109,94,57,93]
def srcG:List UInt8:=[100,101,99,32,91,101,117,114,32,42,32,104,94,45,49,93]
def srcH:List UInt8:=[116,97,98,108,101,32,116,32,111,102,32,117,32,123,32,110,58,32,105,110,116,32,125,59,32,116,97,98,108,101,32,120,32,111,102,59,32,102,101,97,116,117,114,101,32,102,32,111,102,32,117,58,32,105,110,116,32,61,32,49,59]
def xA:Ex:=twoX ⟨#[43]⟩ (wholeX 1) (twoX ⟨#[42]⟩ (wholeX 2) (useX ⟨#[97]⟩))
def xB:Ex:= .mk 9 ⟨#[]⟩ ⟨#[]⟩ ⟨#[]⟩ v0 [] 0 w0 [.mk 9 ⟨#[]⟩ ⟨#[]⟩ ⟨#[]⟩ v0 [] 0 w0 [useX ⟨#[97]⟩,useX ⟨#[98]⟩],.mk 1 ⟨#[]⟩ ⟨#[]⟩ ⟨#[]⟩ ⟨3,1500000,⟨#[]⟩⟩ [] 0 w0 []]
def xC:Ex:= .mk 5 ⟨#[99,111,117,110,116]⟩ ⟨#[]⟩ ⟨#[116]⟩ v0 [] 0 ⟨1,0⟩ [yesX,.mk 2 ⟨#[]⟩ ⟨#[120]⟩ ⟨#[]⟩ v0 [] 0 w0 []]
def tG:Ty:=⟨3,[⟨⟨#[101,117,114]⟩,1⟩,⟨⟨#[104]⟩, -1⟩],⟨#[]⟩⟩
theorem evA:exprV srcA= .tup [.agg xA.row,iv 0,iv 0]:=by kernel_rfl
theorem evB:exprV srcB= .tup [.agg xB.row,iv 0,iv 0]:=by kernel_rfl
theorem evC:exprV srcC= .tup [.agg xC.row,iv 0,iv 0]:=by kernel_rfl
theorem evD:exprV srcD= .tup [.agg zE,iv 6,iv 90]:=by kernel_rfl
theorem evE:exprV srcE= .tup [.agg zE,iv 12,iv 90]:=by kernel_rfl
theorem evF:exprV srcF= .tup [.agg zE,iv 2,iv 70]:=by kernel_rfl
theorem evG:typeV srcG= .tup [.agg tG.cells,iv 0,iv 0]:=by kernel_rfl
theorem use_ok(s:Str):Pure Tryz.prog 33 [sv s] (.agg (useX s).row):=by
 refine Pure.runk (fun _=>0) Tryz.func33 comp33 era33 (Nat.le_of_ble_eq_true rfl) fun σ=> ?_
 repeat'(first|exact .nil|refine .k0 ?_|refine .k1 ?_|refine .k2 ?_|refine .k7 ?_|refine .r1 ?_ ?_|(refine .l1 ?_;intro b)|fail)
 all_goals(try simp only[BL]at *)
 all_goals(show Sx.Fin _ _ _ _;exact Zw)
theorem whole_x(n:Int):Pure Tryz.prog 36 [iv n] (.agg (wholeX n).row):=by
 refine Pure.runk (fun _=>0) Tryz.func36 comp36 era36 (Nat.le_of_ble_eq_true rfl) fun σ=> ?_
 repeat'(first|exact .nil|refine .k0 ?_|refine .k1 ?_|refine .k2 ?_|refine .k7 ?_|refine .r1 ?_ ?_|(refine .l1 ?_;intro b)|fail)
 all_goals(try simp only[BL]at *)
 all_goals(show Sx.Fin _ _ _ _;exact Zw)
theorem yes_ok:Pure Tryz.prog 34 [] (.agg yesX.row):=by
 refine Pure.runk (fun _=>0) Tryz.func34 comp34 era34 (Nat.le_of_ble_eq_true rfl) fun σ=> ?_
 repeat'(first|exact .nil|refine .k0 ?_|refine .k1 ?_|refine .k2 ?_|refine .k7 ?_|refine .r1 ?_ ?_|(refine .l1 ?_;intro b)|fail)
 all_goals(try simp only[BL]at *)
 all_goals(show Sx.Fin _ _ _ _;exact Zw)
theorem two_ok(s:Str)(a b:Ex):Pure Tryz.prog 35 [sv s,.agg a.row,.agg b.row] (.agg (twoX s a b).row):=by
 refine Pure.runk (fun _=>0) Tryz.func35 comp35 era35 (Nat.le_of_ble_eq_true rfl) fun σ=> ?_
 repeat'(first|exact .nil|refine .k0 ?_|refine .k1 ?_|refine .k2 ?_|refine .k7 ?_|refine .r1 ?_ ?_|(refine .l1 ?_;intro b)|(refine .m1 ?_ ?_;intro b)|fail)
 all_goals(try simp only[BL]at *)
 ·exact Nat.le_of_ble_eq_true rfl
 refine Sx.Fin.wk Zs ?_
 repeat' first|exact .refl _|exact .nil|exact Wk_two|refine .cons ?_ ?_|refine .agg ?_|fail
def mH:Mdl:=⟨[⟨⟨#[116]⟩,⟨#[117]⟩,[⟨⟨#[110]⟩,⟨2,[],⟨#[]⟩⟩⟩],0⟩],[⟨⟨#[102]⟩,⟨#[117]⟩,⟨2,[],⟨#[]⟩⟩,wholeX 1,0⟩]⟩
theorem evH:moduleP srcH=(mH,[⟨35,90⟩],0):=by kernel_rfl
theorem evH2:moduleV srcH= .tup [.agg [.sl false 4 (mH.tables.map Tab.cells),.sl false 18 (mH.features.map Fea.cells)],.sl false 2 ([⟨35,90⟩].map Prb.cells),iv 0]:=by
 unfold moduleV
 rw[evH]
theorem cA:Pure Tryz.prog 10 [.sl true 1 [[.v (.int .u8 49)],[.v (.int .u8 32)],[.v (.int .u8 43)],[.v (.int .u8 32)],[.v (.int .u8 50)],[.v (.int .u8 32)],[.v (.int .u8 42)],[.v (.int .u8 32)],[.v (.int .u8 97)]]] (.tup [.agg xA.row,iv 0,iv 0]):=by
 have h:=exprA srcA true
 rw[evA,show srcA.map byteRow=[[.v (.int .u8 49)],[.v (.int .u8 32)],[.v (.int .u8 43)],[.v (.int .u8 32)],[.v (.int .u8 50)],[.v (.int .u8 32)],[.v (.int .u8 42)],[.v (.int .u8 32)],[.v (.int .u8 97)]] by kernel_rfl]at h
 exact h
theorem cB:Pure Tryz.prog 10 [.sl true 1 [[.v (.int .u8 97)],[.v (.int .u8 32)],[.v (.int .u8 100)],[.v (.int .u8 101)],[.v (.int .u8 102)],[.v (.int .u8 97)],[.v (.int .u8 117)],[.v (.int .u8 108)],[.v (.int .u8 116)],[.v (.int .u8 32)],[.v (.int .u8 98)],[.v (.int .u8 32)],[.v (.int .u8 100)],[.v (.int .u8 101)],[.v (.int .u8 102)],[.v (.int .u8 97)],[.v (.int .u8 117)],[.v (.int .u8 108)],[.v (.int .u8 116)],[.v (.int .u8 32)],[.v (.int .u8 49)],[.v (.int .u8 46)],[.v (.int .u8 53)]]] (.tup [.agg xB.row,iv 0,iv 0]):=by
 have h:=exprA srcB true
 rw[evB,show srcB.map byteRow=[[.v (.int .u8 97)],[.v (.int .u8 32)],[.v (.int .u8 100)],[.v (.int .u8 101)],[.v (.int .u8 102)],[.v (.int .u8 97)],[.v (.int .u8 117)],[.v (.int .u8 108)],[.v (.int .u8 116)],[.v (.int .u8 32)],[.v (.int .u8 98)],[.v (.int .u8 32)],[.v (.int .u8 100)],[.v (.int .u8 101)],[.v (.int .u8 102)],[.v (.int .u8 97)],[.v (.int .u8 117)],[.v (.int .u8 108)],[.v (.int .u8 116)],[.v (.int .u8 32)],[.v (.int .u8 49)],[.v (.int .u8 46)],[.v (.int .u8 53)]] by kernel_rfl]at h
 exact h
theorem cC:Pure Tryz.prog 10 [.sl true 1 [[.v (.int .u8 99)],[.v (.int .u8 111)],[.v (.int .u8 117)],[.v (.int .u8 110)],[.v (.int .u8 116)],[.v (.int .u8 40)],[.v (.int .u8 116)],[.v (.int .u8 44)],[.v (.int .u8 32)],[.v (.int .u8 97)],[.v (.int .u8 108)],[.v (.int .u8 108)],[.v (.int .u8 32)],[.v (.int .u8 119)],[.v (.int .u8 104)],[.v (.int .u8 101)],[.v (.int .u8 114)],[.v (.int .u8 101)],[.v (.int .u8 32)],[.v (.int .u8 120)],[.v (.int .u8 41)]]] (.tup [.agg xC.row,iv 0,iv 0]):=by
 have h:=exprA srcC true
 rw[evC,show srcC.map byteRow=[[.v (.int .u8 99)],[.v (.int .u8 111)],[.v (.int .u8 117)],[.v (.int .u8 110)],[.v (.int .u8 116)],[.v (.int .u8 40)],[.v (.int .u8 116)],[.v (.int .u8 44)],[.v (.int .u8 32)],[.v (.int .u8 97)],[.v (.int .u8 108)],[.v (.int .u8 108)],[.v (.int .u8 32)],[.v (.int .u8 119)],[.v (.int .u8 104)],[.v (.int .u8 101)],[.v (.int .u8 114)],[.v (.int .u8 101)],[.v (.int .u8 32)],[.v (.int .u8 120)],[.v (.int .u8 41)]] by kernel_rfl]at h
 exact h
theorem cD:Pure Tryz.prog 10 [.sl true 1 [[.v (.int .u8 97)],[.v (.int .u8 32)],[.v (.int .u8 60)],[.v (.int .u8 32)],[.v (.int .u8 98)],[.v (.int .u8 32)],[.v (.int .u8 60)],[.v (.int .u8 32)],[.v (.int .u8 99)]]] (.tup [.agg zE,iv 6,iv 90]):=by
 have h:=exprA srcD true
 rw[evD,show srcD.map byteRow=[[.v (.int .u8 97)],[.v (.int .u8 32)],[.v (.int .u8 60)],[.v (.int .u8 32)],[.v (.int .u8 98)],[.v (.int .u8 32)],[.v (.int .u8 60)],[.v (.int .u8 32)],[.v (.int .u8 99)]] by kernel_rfl]at h
 exact h
theorem cE:Pure Tryz.prog 10 [.sl true 1 [[.v (.int .u8 99)],[.v (.int .u8 111)],[.v (.int .u8 117)],[.v (.int .u8 110)],[.v (.int .u8 116)],[.v (.int .u8 40)],[.v (.int .u8 116)],[.v (.int .u8 44)],[.v (.int .u8 32)],[.v (.int .u8 97)],[.v (.int .u8 108)],[.v (.int .u8 108)]]] (.tup [.agg zE,iv 12,iv 90]):=by
 have h:=exprA srcE true
 rw[evE,show srcE.map byteRow=[[.v (.int .u8 99)],[.v (.int .u8 111)],[.v (.int .u8 117)],[.v (.int .u8 110)],[.v (.int .u8 116)],[.v (.int .u8 40)],[.v (.int .u8 116)],[.v (.int .u8 44)],[.v (.int .u8 32)],[.v (.int .u8 97)],[.v (.int .u8 108)],[.v (.int .u8 108)]] by kernel_rfl]at h
 exact h
theorem cF:Pure Tryz.prog 10 [.sl true 1 [[.v (.int .u8 49)],[.v (.int .u8 32)],[.v (.int .u8 91)],[.v (.int .u8 109)],[.v (.int .u8 94)],[.v (.int .u8 57)],[.v (.int .u8 93)]]] (.tup [.agg zE,iv 2,iv 70]):=by
 have h:=exprA srcF true
 rw[evF,show srcF.map byteRow=[[.v (.int .u8 49)],[.v (.int .u8 32)],[.v (.int .u8 91)],[.v (.int .u8 109)],[.v (.int .u8 94)],[.v (.int .u8 57)],[.v (.int .u8 93)]] by kernel_rfl]at h
 exact h
theorem cG:Pure Tryz.prog 11 [.sl true 1 [[.v (.int .u8 100)],[.v (.int .u8 101)],[.v (.int .u8 99)],[.v (.int .u8 32)],[.v (.int .u8 91)],[.v (.int .u8 101)],[.v (.int .u8 117)],[.v (.int .u8 114)],[.v (.int .u8 32)],[.v (.int .u8 42)],[.v (.int .u8 32)],[.v (.int .u8 104)],[.v (.int .u8 94)],[.v (.int .u8 45)],[.v (.int .u8 49)],[.v (.int .u8 93)]]] (.tup [.agg tG.cells,iv 0,iv 0]):=by
 have h:=typeA srcG true
 rw[evG,show srcG.map byteRow=[[.v (.int .u8 100)],[.v (.int .u8 101)],[.v (.int .u8 99)],[.v (.int .u8 32)],[.v (.int .u8 91)],[.v (.int .u8 101)],[.v (.int .u8 117)],[.v (.int .u8 114)],[.v (.int .u8 32)],[.v (.int .u8 42)],[.v (.int .u8 32)],[.v (.int .u8 104)],[.v (.int .u8 94)],[.v (.int .u8 45)],[.v (.int .u8 49)],[.v (.int .u8 93)]] by kernel_rfl]at h
 exact h
theorem cH:Pure Tryz.prog 9 [.sl true 1 [[.v (.int .u8 116)],[.v (.int .u8 97)],[.v (.int .u8 98)],[.v (.int .u8 108)],[.v (.int .u8 101)],[.v (.int .u8 32)],[.v (.int .u8 116)],[.v (.int .u8 32)],[.v (.int .u8 111)],[.v (.int .u8 102)],[.v (.int .u8 32)],[.v (.int .u8 117)],[.v (.int .u8 32)],[.v (.int .u8 123)],[.v (.int .u8 32)],[.v (.int .u8 110)],[.v (.int .u8 58)],[.v (.int .u8 32)],[.v (.int .u8 105)],[.v (.int .u8 110)],[.v (.int .u8 116)],[.v (.int .u8 32)],[.v (.int .u8 125)],[.v (.int .u8 59)],[.v (.int .u8 32)],[.v (.int .u8 116)],[.v (.int .u8 97)],[.v (.int .u8 98)],[.v (.int .u8 108)],[.v (.int .u8 101)],[.v (.int .u8 32)],[.v (.int .u8 120)],[.v (.int .u8 32)],[.v (.int .u8 111)],[.v (.int .u8 102)],[.v (.int .u8 59)],[.v (.int .u8 32)],[.v (.int .u8 102)],[.v (.int .u8 101)],[.v (.int .u8 97)],[.v (.int .u8 116)],[.v (.int .u8 117)],[.v (.int .u8 114)],[.v (.int .u8 101)],[.v (.int .u8 32)],[.v (.int .u8 102)],[.v (.int .u8 32)],[.v (.int .u8 111)],[.v (.int .u8 102)],[.v (.int .u8 32)],[.v (.int .u8 117)],[.v (.int .u8 58)],[.v (.int .u8 32)],[.v (.int .u8 105)],[.v (.int .u8 110)],[.v (.int .u8 116)],[.v (.int .u8 32)],[.v (.int .u8 61)],[.v (.int .u8 32)],[.v (.int .u8 49)],[.v (.int .u8 59)]]] (.tup [.agg [.sl false 4 (mH.tables.map Tab.cells),.sl false 18 (mH.features.map Fea.cells)],.sl false 2 ([⟨35,90⟩].map Prb.cells),iv 0]):=by
 have h:=moduleA srcH true
 rw[evH2,show srcH.map byteRow=[[.v (.int .u8 116)],[.v (.int .u8 97)],[.v (.int .u8 98)],[.v (.int .u8 108)],[.v (.int .u8 101)],[.v (.int .u8 32)],[.v (.int .u8 116)],[.v (.int .u8 32)],[.v (.int .u8 111)],[.v (.int .u8 102)],[.v (.int .u8 32)],[.v (.int .u8 117)],[.v (.int .u8 32)],[.v (.int .u8 123)],[.v (.int .u8 32)],[.v (.int .u8 110)],[.v (.int .u8 58)],[.v (.int .u8 32)],[.v (.int .u8 105)],[.v (.int .u8 110)],[.v (.int .u8 116)],[.v (.int .u8 32)],[.v (.int .u8 125)],[.v (.int .u8 59)],[.v (.int .u8 32)],[.v (.int .u8 116)],[.v (.int .u8 97)],[.v (.int .u8 98)],[.v (.int .u8 108)],[.v (.int .u8 101)],[.v (.int .u8 32)],[.v (.int .u8 120)],[.v (.int .u8 32)],[.v (.int .u8 111)],[.v (.int .u8 102)],[.v (.int .u8 59)],[.v (.int .u8 32)],[.v (.int .u8 102)],[.v (.int .u8 101)],[.v (.int .u8 97)],[.v (.int .u8 116)],[.v (.int .u8 117)],[.v (.int .u8 114)],[.v (.int .u8 101)],[.v (.int .u8 32)],[.v (.int .u8 102)],[.v (.int .u8 32)],[.v (.int .u8 111)],[.v (.int .u8 102)],[.v (.int .u8 32)],[.v (.int .u8 117)],[.v (.int .u8 58)],[.v (.int .u8 32)],[.v (.int .u8 105)],[.v (.int .u8 110)],[.v (.int .u8 116)],[.v (.int .u8 32)],[.v (.int .u8 61)],[.v (.int .u8 32)],[.v (.int .u8 49)],[.v (.int .u8 59)]] by kernel_rfl]at h
 exact h
end Go.Proofs.YtdcpcffpapiadaaGreatDoor
set_option maxHeartbeats 4000000
namespace Go.Sx
open Go.RowKit
section
variable {P:Program}[Glob P]
theorem freeze_heap(w:World)(b n k:Nat)(h:k≠b):(w.freeze ⟨b,n,none⟩ 1).heap[k]? =w.heap[k]? :=by
 have h':¬b=k:=fun e=>h e.symm
 simp only[World.freeze,Nat.one_ne_zero,if_false,Array.getElem?_modify,if_neg h']
theorem freeze_at{w:World}{b n:Nat}{cs:Array Value}{t:TypeId}(h:w.heap[b]? =some (.cells cs t (0,0))):∃ f,(w.freeze ⟨b,n,none⟩ 1).heap[b]? =some (.cells cs t f):=by
 simp only[World.freeze,Nat.one_ne_zero,if_false,Array.getElem?_modify,if_true,h,Option.map_some]
 exact⟨_,rfl⟩
theorem freeze_cell{w:World}{b n:Nat}{cs:Array Value}{t:TypeId}(h:w.heap[b]? =some (.cells cs t (0,0)))(k o:Nat):(w.freeze ⟨b,n,none⟩ 1).cell? ⟨k,o,none⟩=w.cell? ⟨k,o,none⟩:=by
 by_cases hk:k=b
 ·subst hk
  obtain⟨f,hf⟩:=freeze_at (n:=n) h
  simp only[World.cell?,hf,h]
 ·simp only[World.cell?,freeze_heap w b n k hk]
theorem OpS_cvown{t e ty:TypeId}{x:Operand}{d b u c:Nat}{rows:List (List AV)}{τ:Store}:
  OpS P (.convert t t x) ty [.sl e,.int .u8,.sl e,.int .u8] [x] [.own 1 d b u c rows] ((d,b,.tail u c)::τ) fun r σ'=>r= .sl true 1 rows∧σ'=τ:=fun hti M w0 w ρ hI hR=>by
 simp only[opInfo,List.cons.injEq,and_true]at hti
 have hs:=tiOf_sl hti.1
 have he:P.underlying e=some (.int .u8):=by
  have:=hti.2.1
  unfold elU at this
  rw[hs]at this
  exact tiOf_int this
 obtain⟨v,hu,hx⟩:=hR.un1
 simp only[List.map_cons,List.map_nil,List.cons.injEq,and_true]at hu
 obtain⟨off,cap,cs,rfl,hr,h4,h5,h6,h8⟩:=hx.of_own
 obtain⟨hg,hN,cur,ty0,hh,hcs,huc⟩:=hI.st _ List.mem_cons_self
 simp only at hg hN hh
 let w2:World:=w.freeze ⟨b,cur.size,none⟩ 1
 have hnd:=List.nodup_cons.1 hI.nd
 have hI2:Inv P M w0 τ w2:=by
  refine⟨hI.os,hI.tape,hI.output,?_,fun k hk=> ?_,fun b' o v h=> ?_,fun e' he'=> ?_,hnd.2,hI.gl,hI.gw,hI.bm⟩
  ·show _≤(w.freeze ⟨b,cur.size,none⟩ 1).heap.size
   simp only[World.freeze,Nat.one_ne_zero,if_false,Array.size_modify]
   exact hI.size
  ·rw[freeze_heap w b _ k (by omega)];exact hI.old k hk
  ·rw[freeze_cell hh];exact hI.imm b' o v h
  ·obtain⟨g1,g2⟩:=hI.st e' (List.mem_cons_of_mem _ he')
   refine⟨g1,?_⟩
   have hne:e'.2.1≠b:=fun h=>hnd.1 (List.mem_map.2 ⟨e',he',h⟩)
   have hk:=freeze_heap w b cur.size e'.2.1 hne
   cases hx:e'.2.2 with
   |cells l=>rw[hx]at g2;obtain⟨a1,cs,t,a2,a3⟩:=g2;exact⟨a1,cs,t,hk.trans a2,a3⟩
   |tail u c=>rw[hx]at g2;obtain⟨a1,cs,t,a2,a3⟩:=g2;exact⟨a1,cs,t,hk.trans a2,a3⟩
   |map es k=>rw[hx]at g2;obtain⟨a1,l,a2,a3⟩:=g2;exact⟨a1,l,hk.trans a2,a3⟩
 refine⟨.value (.slice (some ⟨b,off,none⟩) rows.length cap),w2,M,.sl true 1 rows,_,τ,?_,rfl,Mem.le.refl _,hI2,R.mk_sl hr h4 h5 true,rfl,rfl⟩
 have hsh:w.shape? b=some (ty0,cur.size):=by simp only[World.shape?,hh]
 simp only[execOp,hu,convert,Sem.run_bind,run_under hs,run_under he,Result.andThen_ok,markStringish]
 simp[Sem.run,Sem.bind,Bind.bind,Pure.pure,shape,freeze,hsh]
 rfl
variable {N:Nat}{cfg:Nat→Nat}{K:Regs→Store→Prop}{E:List PanicEntry→Store→Prop}{l:List CI}{xr:XR}{ps:List Prop}
theorem VX_cvown{t e ty:TypeId}{x:Operand}{d d0 b u c:Nat}{rows:List (List AV)}{τ:Store}(h:argO xr none [x]=some (none,[.own 1 d0 b u c rows],ps))(hps:OB ps)
  (k:VX P cfg l K E ((d,.s (.sl true 1 rows))::xr) τ):VX P cfg (⟨some d,.extq (.convert t t x) ty [.sl e,.int .u8,.sl e,.int .u8] [x],none⟩::l) K E xr ((d0,b,.tail u c)::τ):=by
 obtain⟨hc,he⟩:=argO_eq h
 refine VX_gen hc (fun hg=> ?_) (fun hg=> ?_)
 ·simp only[vcO,he hps hg]
  refine OpS_cvown.mono fun x σ' ⟨e1,e2⟩=> ?_
  subst e1 e2;exact k.h
 ·cases hg
def constsV:List Operand→Option (List AV)
 |[]=>some []
 | .const c::l=>(constsV l).map (AV.v c::·)
 |_::_=>none
theorem constsV_eq:∀ {xs:List Operand} {vs:List AV},constsV xs=some vs→∀ rg,evs rg xs=vs
 |[],vs,h,rg=>by cases h;rfl
 | .const c::l,vs,h,rg=>by
  unfold constsV at h
  rw[Option.map_eq_some_iff]at h
  obtain⟨w,h1,rfl⟩:=h
  have:=constsV_eq h1 rg
  simp only[evs,List.map_cons]at this ⊢
  rw[this];rfl
 | .tmp _::_,_,h,_=>by cases h
 | .global _::_,_,h,_=>by cases h
 | .func _::_,_,h,_=>by cases h
theorem VX_mkow{σ:Store}{t:TypeId}{d esz:Nat}{xs:List Operand}{vs:List AV}{rows:List (List AV)}(hc:cfg d=1)(he:0<esz)(hx:constsV xs=some vs)(hr:rowsOf esz vs=some rows)(hb:rows.length≤1000000)
  (k:∀ b,VX P cfg l K E ((d,.s (.own esz d b (rows.length * esz) (rows.length * esz) rows))::xr) ((d,b,.tail (rows.length * esz) (rows.length * esz))::σ)):VX P cfg (⟨some d,.mksl t esz xs,none⟩::l) K E xr σ:=by
 constructor
 simp only[vcX,vcG,vcO,constsV_eq hx,hr,Option.getD_some,hc]
 exact⟨hb,he,fun b=>(k b).h⟩
end
theorem WkL.get{xs ys:List AV}(h:WkL xs ys):xs.length=ys.length∧∀ j (h1:j<xs.length) (h2:j<ys.length),Wk xs[j] ys[j]:=by
 induction h with
 |nil=>exact⟨rfl,fun j h1=>absurd h1 (by simp)⟩
 |cons h t ih=>
  refine⟨by simp[ih.1],fun j h1 h2=> ?_⟩
  cases j with
  |zero=>exact h
  |succ j=>exact ih.2 j (by simpa using h1) (by simpa using h2)
inductive WkLL:List (List AV)→List (List AV)→Prop
 |nil:WkLL [] []
 |cons {x y:List AV} {xs ys:List (List AV)} (h:WkL x y) (t:WkLL xs ys):WkLL (x::xs) (y::ys)
theorem WkLL.get{xs ys:List (List AV)}(h:WkLL xs ys):xs.length=ys.length∧∀ j (h1:j<xs.length) (h2:j<ys.length),WkL xs[j] ys[j]:=by
 induction h with
 |nil=>exact⟨rfl,fun j h1=>absurd h1 (by simp)⟩
 |cons h t ih=>
  refine⟨by simp[ih.1],fun j h1 h2=> ?_⟩
  cases j with
  |zero=>exact h
  |succ j=>exact ih.2 j (by simpa using h1) (by simpa using h2)
theorem Wk.rows{nn:Bool}{n:Nat}{rows rows':List (List AV)}(h:WkLL rows rows'):Wk (.sl nn n rows) (.sl false n rows'):=fun M v hv=>by
 obtain⟨hl,hg⟩:=h.get
 cases hv with
 |nil _ _ a ha=>
  obtain rfl:rows'=[]:=List.eq_nil_of_length_eq_zero hl.symm
  exact .nil _ _ a (fun h=>nomatch h)
 |sl _ _ _ b off cap cs hsz hM hR hc hm=>
  rw[hl]
  refine .sl _ _ _ b off cap cs (fun i hi=> ?_) (fun k hk=>hM k (by rw[hl];exact hk)) (fun i hi j hj=> ?_) (by omega) hm
  ·have:=(hg i (by omega) hi).get.1
   rw[← this];exact hsz i (by omega)
  ·have hgi:=(hg i (by omega) hi).get
   have:=hR i (by omega) j (by rw[hgi.1];exact hj)
   exact hgi.2 j (by rw[hgi.1];exact hj) hj M _ this
end Go.Sx
set_option maxHeartbeats 8000000
namespace Go.Proofs.YtdcpcffpapiadaaGreatDoor
open Go.Sx Go.Proofs
theorem example_ok:Pure Tryz.prog 12 [] (.v (.bool true)):=by
 refine Pure.runk (fun d=>bif ([29,36,43,50,57,64,71,78]:List Nat).elem d then 1 else 0) Tryz.func12 comp12 era12 (Nat.le_of_ble_eq_true rfl) fun σ=> ?_
 repeat'(first|(refine VX_cvown rfl .nil ?_)|(refine VX_mkow rfl Nat.one_pos rfl rfl (Nat.le_of_ble_eq_true rfl) (fun b=> ?_))|(first|exact .nil|refine .k0 ?_|refine .k1 ?_|refine .k2 ?_|refine .k3 ?_|refine .k5 ?_|refine .k7 ?_|refine .k9 ?_|(refine .cd ?_ ?_<;>(intro hc;first|exact kt hc (by assumption)|skip))|refine .r1 ?_ ?_|(refine .l1 ?_;intro b)|(refine .m2 ?_ ?_;intro hlen)|refine .t1 ?_ ?_ ?_|refine .an rfl (by intro hob;first|exact cA|exact cB|exact cC|exact cD|exact cE|exact cF|exact cG|exact cH|exact use_ok _|exact whole_x _|exact yes_ok|exact two_ok _ (wholeX 2) (useX ⟨#[97]⟩)|exact two_ok _ (wholeX 1) (twoX ⟨#[42]⟩ (wholeX 2) (useX ⟨#[97]⟩))|exact sameX_t xA|(refine(sameX_t xB).wk ?_;(repeat' first|exact .refl _|exact .nil|exact .sl|refine .agg ?_|refine .cons ?_ ?_|refine .rows ?_);done)|(refine(sameX_t xC).wk ?_;(repeat' first|exact .refl _|exact .nil|refine .agg ?_|refine .cons ?_ ?_|refine .rows ?_);done)|(refine(sameType_t tG).wk ?_;(repeat' first|exact .refl _|exact .sl|refine .agg ?_|refine .cons ?_ ?_|fail);done)) ?_ ?_|fail))
 all_goals first|(exfalso;revert hc;decide)|exact Nat.le_of_ble_eq_true rfl|(intro _;exact Nat.le_of_ble_eq_true rfl)|(show Sx.Fin _ _ _ _;(refine Sx.Fin.wk Zs ?_;repeat' first|exact .refl _|fail))|skip
 ·intro _
  exact⟨Int.le_refl 0,Int.zero_lt_one⟩
 ·intro _
  exact⟨Int.le_refl 0,Int.zero_lt_one⟩
structure WrongI(w:Bs)(p:Int):Prop where
 len:w.length≤100
 pos:0≤p∧p<w.length
 lex:(lexL w.length 0 (-1) w).2=[]
 item:∀ A e,(lexL w.length 0 (-1) w).1=A++[e]→∀ B,B≠[]→(hd (A++B)).kind≠6∧itemP (A++B)= .err p 90∧behindP p (A++B)=B
theorem WrongI.of{w:Bs}{p:Int}{A:List Tok}(h1:w.length≤100)(h2:0≤p∧p<w.length)(h3:lexL w.length 0 (-1) w=(A++[⟨6,⟨#[]⟩,(w.length:Int)⟩],[]))(h4:∀ b B,(hd (A++b::B)).kind≠6∧itemP (A++b::B)= .err p 90∧behindP p (A++b::B)=b::B):WrongI w p:=by
 refine⟨h1,h2,by rw[h3],fun A' e he B hB=> ?_⟩
 rw[h3]at he
 obtain⟨e1,_⟩:=List.append_inj' he rfl
 subst e1
 cases B with
 |nil=>exact absurd rfl hB
 |cons b B=>exact h4 b B
def wrong0:Bs:=[116,97,98,108,101,59]
theorem wrong0_ok:WrongI wrong0 5:=WrongI.of (A:=[⟨1,⟨#[116,97,98,108,101]⟩,0⟩,⟨5,⟨#[59]⟩,5⟩]) (by decide) (by decide) (by decide+kernel) fun b B=>⟨(show(1:Int)≠6 by decide),by kernel_rfl,by kernel_rfl⟩
def wrong1:Bs:=[116,97,98,108,101,32,116,32,111,102,32,123,32,125,59]
theorem wrong1_ok:WrongI wrong1 11:=WrongI.of (A:=[⟨1,⟨#[116,97,98,108,101]⟩,0⟩,⟨1,⟨#[116]⟩,6⟩,⟨1,⟨#[111,102]⟩,8⟩,⟨5,⟨#[123]⟩,11⟩,⟨5,⟨#[125]⟩,13⟩,⟨5,⟨#[59]⟩,14⟩]) (by decide) (by decide) (by decide+kernel) fun b B=>⟨(show(1:Int)≠6 by decide),by kernel_rfl,by kernel_rfl⟩
def wrong2:Bs:=[102,101,97,116,117,114,101,32,102,32,111,102,32,117,58,32,105,110,116,32,61,32,59]
theorem wrong2_ok:WrongI wrong2 22:=WrongI.of (A:=[⟨1,⟨#[102,101,97,116,117,114,101]⟩,0⟩,⟨1,⟨#[102]⟩,8⟩,⟨1,⟨#[111,102]⟩,10⟩,⟨1,⟨#[117]⟩,13⟩,⟨5,⟨#[58]⟩,14⟩,⟨1,⟨#[105,110,116]⟩,16⟩,⟨5,⟨#[61]⟩,20⟩,⟨5,⟨#[59]⟩,22⟩]) (by decide) (by decide) (by decide+kernel) fun b B=>⟨(show(1:Int)≠6 by decide),by kernel_rfl,by kernel_rfl⟩
def wrong3:Bs:=[102,101,97,116,117,114,101,32,102,32,111,102,32,117,58,32,105,110,116,32,61,32,49,32,43,59]
theorem wrong3_ok:WrongI wrong3 25:=WrongI.of (A:=[⟨1,⟨#[102,101,97,116,117,114,101]⟩,0⟩,⟨1,⟨#[102]⟩,8⟩,⟨1,⟨#[111,102]⟩,10⟩,⟨1,⟨#[117]⟩,13⟩,⟨5,⟨#[58]⟩,14⟩,⟨1,⟨#[105,110,116]⟩,16⟩,⟨5,⟨#[61]⟩,20⟩,⟨2,⟨#[49]⟩,22⟩,⟨5,⟨#[43]⟩,24⟩,⟨5,⟨#[59]⟩,25⟩]) (by decide) (by decide) (by decide+kernel) fun b B=>⟨(show(1:Int)≠6 by decide),by kernel_rfl,by kernel_rfl⟩
def wrong4:Bs:=[120,59]
theorem wrong4_ok:WrongI wrong4 0:=WrongI.of (A:=[⟨1,⟨#[120]⟩,0⟩,⟨5,⟨#[59]⟩,1⟩]) (by decide) (by decide) (by decide+kernel) fun b B=>⟨(show(1:Int)≠6 by decide),by kernel_rfl,by kernel_rfl⟩
def wrong5:Bs:=[59]
theorem wrong5_ok:WrongI wrong5 0:=WrongI.of (A:=[⟨5,⟨#[59]⟩,0⟩]) (by decide) (by decide) (by decide+kernel) fun b B=>⟨(show(5:Int)≠6 by decide),by kernel_rfl,by kernel_rfl⟩
def wrong6:Bs:=[116,97,98,108,101,32,116,32,111,102,32,117,32,123,32,110,32,105,110,116,32,125,59]
theorem wrong6_ok:WrongI wrong6 17:=WrongI.of (A:=[⟨1,⟨#[116,97,98,108,101]⟩,0⟩,⟨1,⟨#[116]⟩,6⟩,⟨1,⟨#[111,102]⟩,8⟩,⟨1,⟨#[117]⟩,11⟩,⟨5,⟨#[123]⟩,13⟩,⟨1,⟨#[110]⟩,15⟩,⟨1,⟨#[105,110,116]⟩,17⟩,⟨5,⟨#[125]⟩,21⟩,⟨5,⟨#[59]⟩,22⟩]) (by decide) (by decide) (by decide+kernel) fun b B=>⟨(show(1:Int)≠6 by decide),by kernel_rfl,by kernel_rfl⟩
def wrong7:Bs:=[102,101,97,116,117,114,101,32,102,32,111,102,32,117,58,32,105,110,116,32,61,32,99,111,117,110,116,40,116,44,32,97,108,108,32,119,104,101,114,101,41,59]
theorem wrong7_ok:WrongI wrong7 40:=WrongI.of (A:=[⟨1,⟨#[102,101,97,116,117,114,101]⟩,0⟩,⟨1,⟨#[102]⟩,8⟩,⟨1,⟨#[111,102]⟩,10⟩,⟨1,⟨#[117]⟩,13⟩,⟨5,⟨#[58]⟩,14⟩,⟨1,⟨#[105,110,116]⟩,16⟩,⟨5,⟨#[61]⟩,20⟩,⟨1,⟨#[99,111,117,110,116]⟩,22⟩,⟨5,⟨#[40]⟩,27⟩,⟨1,⟨#[116]⟩,28⟩,⟨5,⟨#[44]⟩,29⟩,⟨1,⟨#[97,108,108]⟩,31⟩,⟨1,⟨#[119,104,101,114,101]⟩,35⟩,⟨5,⟨#[41]⟩,40⟩,⟨5,⟨#[59]⟩,41⟩]) (by decide) (by decide) (by decide+kernel) fun b B=>⟨(show(1:Int)≠6 by decide),by kernel_rfl,by kernel_rfl⟩
theorem modL_wrong{w y:Bs}{p:Int}{n:Mdl}(hw:WrongI w p)(hl:y.length≤10000)(hy:moduleP y=(n,[],0)):moduleP (w++10::y)=(n,[⟨p,90⟩],0):=by
 unfold moduleP at hy ⊢
 have hwl:=hw.len
 rw[if_neg (by omega)]at hy
 rw[if_neg (by simp;omega)]
 simp only[Prod.mk.injEq]at hy ⊢
 obtain⟨y1,y2,_⟩:=hy
 have y3:=take32 y2
 have y4:(modL N0 (toksL y).1 mdl0 (toksL y).2).2=[]:=by
  have:(sortP (modL N0 (toksL y).1 mdl0 (toksL y).2).2).length=0:=by rw[y3];rfl
  rw[sortP_length]at this
  exact List.eq_nil_of_length_eq_zero this
 rw[modL_acc]at y4
 simp only[List.append_eq_nil_iff]at y4
 obtain⟨y5,y6⟩:=y4
 rw[y5]at y1
 have y7:(lexL y.length 0 (-1) y).2=[]:=take32 y5
 obtain⟨A,a1,a2,a3⟩:=lex_app y w.length 0 w (Nat.le_refl _) (by omega) hw.lex
 have hsh:=lex_shift ((w.length:Int)+1) (by omega) y.length 0 (-1) (-1) y (by omega) (.inl ⟨rfl,by omega⟩)
 rw[show(0:Int)+(w.length:Int)+1=0+((w.length:Int)+1) by omega,hsh,y7]at a3
 have hz:toksL (w++10::y)=(A++(toksL y).1.map (shT (w.length+1)),[]):=by
  unfold toksL
  simp only
  rw[show(w++10::y).length=w.length+y.length+1 by simp;omega,a3];rfl
 have hEy:EndL (toksL y).1:=lex_end _ _ _ _
 have hLy:(toksL y).1.length≤y.length+1:=lex_len _ _ _ _
 have hEm:EndL ((toksL y).1.map (shT ((w.length:Int)+1))):=by
  obtain⟨M,e,h1,h2⟩:=hEy
  exact⟨M.map (shT ((w.length:Int)+1)),shT ((w.length:Int)+1) e,by rw[h1,List.map_append];rfl,h2⟩
 obtain⟨i1,i2,i3⟩:=hw.item A _ a2 _ hEm.ne
 rw[hz]
 simp only
 have hm:modL N0 (A++(toksL y).1.map (shT (w.length+1))) mdl0 []=(n,[⟨p,90⟩]):=by
  show modL (999999+1) _ _ _=_
  rw[modL,if_neg i1,i2]
  simp only
  rw[i3,modL_acc,modL_shift _ _ _ hEy,modL_fuel 999999 N0 _ _ _ hEy (by omega) (by show _≤1000000;omega),y6]
  refine Prod.ext ?_ rfl
  rw[← y1];unfold appM mdl0;simp
 rw[hm]
 exact⟨rfl,by rw[sortP_one];rfl,trivial⟩
theorem moduleP_recovers{x y w:Bs}{m n:Mdl}{p:Int}(hw:WrongI w p)(hl:x.length≤5000∧y.length≤5000)(hx:moduleP x=(m,[],0))(hy:moduleP y=(n,[],0)):
  moduleP (x++10::(w++10::y))=(appM m n,[⟨p+(x.length+1),90⟩],0):=by
 have hwl:=hw.len
 rw[moduleP_items (by simp;omega) hx (modL_wrong hw (by omega) hy)];rfl
abbrev OpP:Type:=(Bs×Nat)×(Bs×Nat)
theorem few_ok(l:List UInt8)(n:Nat)(hl:l.length≤maxLen)(nn:Bool):Pure Tryz.prog 13 [.sl nn 1 (l.map byteRow),iv n] (.sl nn 1 ((l.take n).map byteRow)):=by
 refine Pure.runk (fun _=>0) Tryz.func13 comp13 era13 (Nat.le_of_ble_eq_true rfl) fun σ=> ?_
 repeat'(first|exact .nil|refine .k0 ?_|refine .k1 ?_|refine .k2 ?_|refine .k7 ?_|refine .k9 ?_|(refine .cd ?_ ?_<;>(intro hc;skip))|refine .r1 ?_ ?_|(refine .m2 ?_ ?_;intro hlen)|refine .t2 ?_ ?_ ?_|fail)
 try any_goals(exact Zo)
 all_goals(try simp only[BL]at *)
 ·exact⟨.refl _,Sub.refl _⟩
 ·rw[List.take_of_length_le (by omega)]
  exact⟨.refl _,Sub.refl _⟩
def Mdl.row(m:Mdl):List AV:=[.sl false 4 (m.tables.map Tab.cells),.sl false 18 (m.features.map Fea.cells)]
theorem sameMod_t(m:Mdl):Pure Tryz.prog 14 [.agg m.row,.agg m.row] (.v (.bool true)):=by
 unfold Mdl.row
 refine Pure.runk (fun _=>0) Tryz.func14 comp14 era14 (Nat.le_of_ble_eq_true rfl) fun σ=> ?_
 repeat'(first|exact .nil|refine .k0 ?_|refine .k1 ?_|refine .k2 ?_|refine .k4 ?_|refine .k6 ?_|refine .k7 ?_|refine .k9 ?_|(refine .cd ?_ ?_<;>(intro hc;skip))|refine .r1 ?_ ?_|(refine .m1 ?_ ?_;intro b)|(refine .m2 ?_ ?_;intro hlen)|fail)
 try any_goals(exact Zo)
 all_goals(try simp only[BL]at *)
 ·exfalso;simp at hc
 clear hc
 rename_i b2 _ _ _
 refine WK_loop (fun n rg σ'=>∃ i:Nat,i≤m.tables.length∧n=m.tables.length-i∧σ'=(3,b,Blk.cells m.row)::(2,b2,Blk.cells m.row)::σ∧rg=[(2,.lp 2 b2 0),(3,.lp 3 b 0),(5,iv i)]) m.tables.length rfl ⟨_,_,Zr,Zs,0,Nat.zero_le _,rfl,rfl,rfl⟩ ?_
 rintro n _ _ ⟨i,hi,hn,rfl,rfl⟩
 unfold Mdl.row
 repeat'(first|exact .nil|refine .k0 ?_|refine .k1 ?_|refine .k2 ?_|refine .k5 ?_|refine .k6 ?_|refine .k7 ?_|refine .k8 ?_|refine .k9 ?_|(refine .cd ?_ ?_<;>(intro hc;skip))|refine .r1 ?_ ?_|(refine .m2 ?_ ?_;intro hlen)|refine .t1 ?_ ?_ ?_|refine .an rfl (by intro hob;first|exact sameTab_t _|fail) ?_ ?_|fail)
 try any_goals(exact Zo)
 all_goals(try simp only[BL]at *)
 all_goals first|(exfalso;simp at hc;done)|(refine⟨m.tables.length-(i+1),by omega,_,_,Zr,Zs,i+1,by omega,rfl,rfl,by rw[up1 (n:=m.tables.length) (by omega) (by assumption)]⟩;done)|skip
 refine WK_loop (fun n rg σ'=>∃ i:Nat,i≤m.features.length∧n=m.features.length-i∧σ'=(3,b,Blk.cells m.row)::(2,b2,Blk.cells m.row)::σ∧rg=[(2,.lp 2 b2 0),(3,.lp 3 b 0),(6,iv i)]) m.features.length rfl ⟨_,_,Zr,Zs,0,Nat.zero_le _,rfl,rfl,rfl⟩ ?_
 rintro n2 _ _ ⟨j,hj,hn2,rfl,rfl⟩
 unfold Mdl.row
 repeat'(first|exact .nil|refine .k0 ?_|refine .k1 ?_|refine .k2 ?_|refine .k4 ?_|refine .k6 ?_|refine .k7 ?_|refine .k8 ?_|refine .k9 ?_|(refine .cd ?_ ?_<;>(intro hc;skip))|refine .r1 ?_ ?_|(refine .l1 ?_;intro b)|(refine .m2 ?_ ?_;intro hlen)|refine .t1 ?_ ?_ ?_|refine .an rfl (by intro hob;first|exact sameType_t _|exact sameX_t _) ?_ ?_|fail)
 try any_goals(exact Zo)
 all_goals(try simp only[BL]at *)
 all_goals first|(exfalso;simp at hc;done)|(refine⟨m.features.length-(j+1),by omega,_,_,Zr,Zs,j+1,by omega,rfl,rfl,by rw[up1 (n:=m.features.length) (by omega) (by assumption)]⟩;done)|(show Sx.Fin _ _ _ _;(refine Sx.Fin.wk Zs ?_;repeat' first|exact .refl _|fail);done)|fail
end Go.Proofs.YtdcpcffpapiadaaGreatDoor
namespace Go.Sx
theorem Wk.flr{ez:Nat}{rows rows':List (List AV)}{nn:Bool}(h:rows=rows'):Wk (.fl ez rows) (.sl nn ez rows'):=h ▸ fun _ _ h=>h.fl_sl nn
end Go.Sx
namespace Go.Proofs.YtdcpcffpapiadaaGreatDoor
open Go.Sx Go.Proofs
def wrL:List (Bs×Int):=[(wrong0,5),(wrong1,11),(wrong2,22),(wrong3,25),(wrong4,0),(wrong5,0),(wrong6,17),(wrong7,40)]
theorem wr_ok:∀ k,k<8→WrongI (wrL.getD k default).1 (wrL.getD k default).2∧0≤(wrL.getD k default).2∧(wrL.getD k default).2<(wrL.getD k default).1.length∧(wrL.getD k default).1.length≤60
 |0,_=>⟨wrong0_ok,by decide⟩
 |1,_=>⟨wrong1_ok,by decide⟩
 |2,_=>⟨wrong2_ok,by decide⟩
 |3,_=>⟨wrong3_ok,by decide⟩
 |4,_=>⟨wrong4_ok,by decide⟩
 |5,_=>⟨wrong5_ok,by decide⟩
 |6,_=>⟨wrong6_ok,by decide⟩
 |7,_=>⟨wrong7_ok,by decide⟩
def wrI(n:Int):Nat:=if n.tmod 8<0 then(-(n.tmod 8)).toNat else(n.tmod 8).toNat
theorem wrI_lt(n:Int):wrI n<8:=by
 unfold wrI
 have h1:=Int.tmod_lt_of_pos n (b:=8) (by decide)
 have h2: -8<n.tmod 8:=by
  have h3:=Int.tmod_lt_of_pos (-n) (b:=8) (by decide)
  rw[Int.neg_tmod]at h3
  omega
 split<;>omega
def itL:List (List AV):=wrL.map fun e=>[sv ⟨e.1.toArray⟩]
theorem it_get:∀ k,k<8→(itL.getD k [])[0]? =some (sv ⟨(wrL.getD k default).1.toArray⟩)
 |0,_=>rfl
 |1,_=>rfl
 |2,_=>rfl
 |3,_=>rfl
 |4,_=>rfl
 |5,_=>rfl
 |6,_=>rfl
 |7,_=>rfl
theorem ones_bytes(l:List UInt8):((l.map byteRow).all fun r=>r.all AV.one)=true:=List.all_eq_true.2 fun r hr=>by obtain⟨x,_,rfl⟩:=List.mem_map.1 hr;rfl
theorem ones_tab(l:List Tab):((l.map Tab.cells).all fun r=>r.all AV.one)=true:=List.all_eq_true.2 fun r hr=>by obtain⟨x,_,rfl⟩:=List.mem_map.1 hr;rfl
theorem ones_fea(l:List Fea):((l.map Fea.cells).all fun r=>r.all AV.one)=true:=List.all_eq_true.2 fun r hr=>by obtain⟨x,_,rfl⟩:=List.mem_map.1 hr;rfl
theorem rec_fin(x w:Bs)(p:Int)(hx:x.length≤700)(hw:w.length≤60)(hp:0≤p∧p<w.length):(decide ((0:Int)=0) && true && decide (((List.length [Prb.cells ⟨p+(x.length+1),90⟩]:Nat):Int)=1) && decide ((⟨p+(x.length+1),90⟩:Prb).code=90) && decide ((x.length:Int)<(⟨p+(x.length+1),90⟩:Prb).at_) &&
   decide ((⟨p+(x.length+1),90⟩:Prb).at_<IntKind.i64.wrap (IntKind.i64.wrap ((x.length:Int)+1)+((⟨w.toArray⟩:Str).size:Int))) && true)=true:=by
 have hz:IntKind.i64.wrap (IntKind.i64.wrap ((x.length:Int)+1)+((⟨w.toArray⟩:Str).size:Int))=x.length+1+w.length:=by
  have:(⟨w.toArray⟩:Str).size=w.length:=rfl
  rw[this,i64w (n:=(x.length:Int)+1) (by omega),i64w (by omega)]
 rw[hz]
 simp
 omega
theorem rec_good(a b x y w:Bs)(n t p:Int)(m q:Mdl)(ht:n.tmod 8=t)(ht1: -8<t∧t<8)(hx:x.length≤700)(hy:y.length≤700)(hw:w.length≤60)(hm:m.tables.length+m.features.length≤2000)(hq:q.tables.length+q.features.length≤2000)(hp:0≤p∧p<w.length)
  (hk1:t<0→(itL.getD (IntKind.i64.wrap (0-t)).toNat [])[0]? =some (sv ⟨w.toArray⟩)) (hk2:¬t<0→(itL.getD t.toNat [])[0]? =some (sv ⟨w.toArray⟩))
  (r1:Sx.Pure Tryz.prog 13 [.sl false 1 (a.map byteRow),iv 700] (.sl false 1 (x.map byteRow))) (r2:Sx.Pure Tryz.prog 13 [.sl false 1 (b.map byteRow),iv 700] (.sl false 1 (y.map byteRow)))
  (hX:Sx.Pure Tryz.prog 9 [.sl false 1 (x.map byteRow)] (.tup [.agg [.sl false 4 (m.tables.map Tab.cells),.sl false 18 (m.features.map Fea.cells)],.sl false 2 [],iv 0]))
  (hY:Sx.Pure Tryz.prog 9 [.sl false 1 (y.map byteRow)] (.tup [.agg [.sl false 4 (q.tables.map Tab.cells),.sl false 18 (q.features.map Fea.cells)],.sl false 2 [],iv 0]))
  (hZ:Sx.Pure Tryz.prog 9 [.sl false 1 ((x++10::(w++10::y)).map byteRow)] (.tup [.agg [.sl false 4 ((appM m q).tables.map Tab.cells),.sl false 18 ((appM m q).features.map Fea.cells)],.sl false 2 [Prb.cells ⟨p+(x.length+1),90⟩],iv 0])):
  Sx.Pure Tryz.prog 5 [.sl false 1 (a.map byteRow),.sl false 1 (b.map byteRow),iv n] (.v (.bool true)):=by
 refine Pure.runk (fun d=>bif ([63,84,92]:List Nat).elem d then 3 else 0) Tryz.func5 comp5 era5 (Nat.le_of_ble_eq_true rfl) fun σ=> ?_
 repeat'(first|exact .nil|refine .k0 ?_|refine .k1 ?_|refine .k2 ?_|refine .k3 ?_|refine .k7 ?_|refine .k9 ?_|(refine .cd ?_ ?_<;>(intro hc;skip))|refine .r1 ?_ ?_|(refine .l1 ?_;intro b)|(refine .m3 ?_ ?_;intro hlen)|refine .an rfl (by intro hob;first|exact r1|exact r2|exact hX|exact hY|exact example_ok) ?_ ?_|refine .r8 ?_ ?_|fail)
 all_goals try(first|exact Nat.le_of_ble_eq_true rfl|(show Sx.Fin _ _ _ _;(refine Sx.Fin.wk Zs ?_;repeat' first|exact .refl _|fail);done))
 all_goals simp only[List.length_cons,List.length_nil,Nat.zero_add,Nat.reduceAdd,Int.cast_ofNat_Int,ht]at *
 ·decide
 ·exact⟨trivial,by rw[IntKind.wrap_i64];simp at hc;omega,by rw[IntKind.wrap_i64];simp at hc;omega⟩
 all_goals have hwn:w.map byteRow≠[]:=by intro h;have:=congrArg List.length h;simp at this;subst this;simp at hp;omega
 have hb1:t<0→0≤IntKind.i64.wrap (0-t)∧IntKind.i64.wrap (0-t)<8:=fun h=>by rw[IntKind.wrap_i64];omega
 ·refine VY_ldp (sv ⟨w.toArray⟩) rfl (fun _=>hk1 (of_decide_eq_true hc)) (by rfl) .nil ?_
  repeat'(first|exact .nil|refine .k0 ?_|refine .k1 ?_|refine .k2 ?_|refine .k3 ?_|refine .k4 ?_|refine .k5 ?_|refine .r1 ?_ ?_|(refine .l1 ?_;intro b)|refine .u2 ?_ ?_ ?_ (fun b u c=> ?_)|refine .u3 ?_ ?_ (fun hr0=> ?_) (fun hr1 b u c=> ?_)|refine .an rfl (by intro hob;first|exact r1|(refine hZ.wk ?_;refine .cons (.ownr ?_) .nil;first|(simp[byteRow];done)|(rw[show x=[]from List.map_eq_nil_iff.1 (by assumption)];simp[byteRow];done))|((refine(sameMod_t (appM m q)).wk (.cons (.agg (.cons ?_ (.cons ?_ .nil))) (.cons (.agg (.cons ?_ (.cons ?_ .nil))) .nil)))<;>first|exact .refl _|(refine .ownr ?_;simp_all [appM];done)|(refine Wk.flr ?_;simp_all [appM];done))|fail) ?_ ?_|refine .r2 ?_ ?_|refine .r3 ?_ ?_|refine .r8 ?_ ?_|(show List.all _ _=true;rfl)|fail)
  all_goals first|exact Nat.le_of_ble_eq_true rfl|exact ones_bytes _|exact ones_tab _|exact ones_fea _|(simp only[List.length_cons,List.length_nil,List.length_append,List.length_map];omega)|(intro _;exact⟨rfl,Int.le_refl 0,Int.zero_lt_one⟩)|exact fun _=>⟨rfl,hb1 (of_decide_eq_true hc)⟩|(exfalso;simp_all;done)|skip
  all_goals(refine VY_ldp (sv ⟨w.toArray⟩) rfl (fun _=>hk1 (of_decide_eq_true hc)) (by rfl) (.cons (fun h=>h) .nil) ?_;repeat'(first|exact .nil|refine .k0 ?_|refine .k1 ?_|refine .k3 ?_|refine .k4 ?_|refine .k7 ?_|refine .r1 ?_ ?_|refine .an rfl (by intro hob;exact example_ok) ?_ ?_|fail))
  all_goals exact Sx.Fin.intro Zs (congrArg (fun b=>AV.v (.bool b)) (rec_fin x w p hx hw hp))
 ·have:=of_decide_eq_false hc;exact⟨trivial,by omega,by omega⟩
 ·refine VY_ldp (sv ⟨w.toArray⟩) rfl (fun _=>hk2 (of_decide_eq_false hc)) (by rfl) .nil ?_
  repeat'(first|exact .nil|refine .k0 ?_|refine .k1 ?_|refine .k2 ?_|refine .k3 ?_|refine .k4 ?_|refine .k5 ?_|refine .r1 ?_ ?_|(refine .l1 ?_;intro b)|refine .u2 ?_ ?_ ?_ (fun b u c=> ?_)|refine .u3 ?_ ?_ (fun hr0=> ?_) (fun hr1 b u c=> ?_)|refine .an rfl (by intro hob;first|exact r1|(refine hZ.wk ?_;refine .cons (.ownr ?_) .nil;first|(simp[byteRow];done)|(rw[show x=[]from List.map_eq_nil_iff.1 (by assumption)];simp[byteRow];done))|((refine(sameMod_t (appM m q)).wk (.cons (.agg (.cons ?_ (.cons ?_ .nil))) (.cons (.agg (.cons ?_ (.cons ?_ .nil))) .nil)))<;>first|exact .refl _|(refine .ownr ?_;simp_all [appM];done)|(refine Wk.flr ?_;simp_all [appM];done))|fail) ?_ ?_|refine .r2 ?_ ?_|refine .r3 ?_ ?_|refine .r8 ?_ ?_|(show List.all _ _=true;rfl)|fail)
  all_goals first|exact Nat.le_of_ble_eq_true rfl|exact ones_bytes _|exact ones_tab _|exact ones_fea _|(simp only[List.length_cons,List.length_nil,List.length_append,List.length_map];omega)|(intro _;exact⟨rfl,Int.le_refl 0,Int.zero_lt_one⟩)|exact fun _=>⟨rfl,(by have:=of_decide_eq_false hc;omega),ht1.2⟩|(exfalso;simp_all;done)|skip
  all_goals(refine VY_ldp (sv ⟨w.toArray⟩) rfl (fun _=>hk2 (of_decide_eq_false hc)) (by rfl) (.cons (fun h=>h) .nil) ?_;repeat'(first|exact .nil|refine .k0 ?_|refine .k1 ?_|refine .k3 ?_|refine .k4 ?_|refine .k7 ?_|refine .r1 ?_ ?_|refine .an rfl (by intro hob;exact example_ok) ?_ ?_|fail))
  all_goals exact Sx.Fin.intro Zs (congrArg (fun b=>AV.v (.bool b)) (rec_fin x w p hx hw hp))
theorem modL_size:∀ (n:Nat) (L:List Tok) (m:Mdl) (bad:List Prb),EndL L→(modL n L m bad).1.tables.length+(modL n L m bad).1.features.length≤m.tables.length+m.features.length+L.length
 |0,L,m,bad,_=>by show m.tables.length+m.features.length≤_;omega
 |n+1,L,m,bad,hE=>by
  unfold modL
  split
  ·show m.tables.length+m.features.length≤_;omega
  ·rename_i hk
   cases hi:itemP L with
   |ok a L'=>
    obtain⟨h1,h2,h3⟩:=(pos_item L hE).ok a L' hi
    have:=modL_size n L' (addI m a) bad h2
    simp only
    cases a with
    |tab t=>simp only[addI,List.length_append,List.length_singleton]at this ⊢;omega
    |fea t=>simp only[addI,List.length_append,List.length_singleton]at this ⊢;omega
   |err p c=>
    obtain⟨h3,h4⟩:=behind_len (x:=p) hE hk
    have:=modL_size n (behindP p L) m (bad++[⟨p,c⟩]) h3
    simp only
    omega
theorem moduleP_size(s:Bs):(moduleP s).1.tables.length+(moduleP s).1.features.length≤s.length+1:=by
 unfold moduleP
 split
 ·show 0+0≤_;omega
 ·have h1:=modL_size N0 (toksL s).1 ⟨[],[]⟩ (toksL s).2 (lex_end _ _ _ _)
  have h2:=lex_len s.length 0 (-1) s
  have h3:(toksL s).1.length=(lexL s.length 0 (-1) s).1.length:=rfl
  simp only[List.length_nil]at h1 ⊢
  omega
theorem rec_bad(a b x y:Bs)(n:Int)(T1 F1 T2 F2 A B:List (List AV))(hAB:0<A.length∨0<B.length)
  (r1:Sx.Pure Tryz.prog 13 [.sl false 1 (a.map byteRow),iv 700] (.sl false 1 (x.map byteRow))) (r2:Sx.Pure Tryz.prog 13 [.sl false 1 (b.map byteRow),iv 700] (.sl false 1 (y.map byteRow)))
  (hX:Sx.Pure Tryz.prog 9 [.sl false 1 (x.map byteRow)] (.tup [.agg [.sl false 4 T1,.sl false 18 F1],.sl false 2 A,iv 0]))
  (hY:Sx.Pure Tryz.prog 9 [.sl false 1 (y.map byteRow)] (.tup [.agg [.sl false 4 T2,.sl false 18 F2],.sl false 2 B,iv 0])):
  Sx.Pure Tryz.prog 5 [.sl false 1 (a.map byteRow),.sl false 1 (b.map byteRow),iv n] (.v (.bool true)):=by
 refine Pure.runk (fun d=>bif ([63,84,92]:List Nat).elem d then 3 else 0) Tryz.func5 comp5 era5 (Nat.le_of_ble_eq_true rfl) fun σ=> ?_
 have hg:(!decide ((0:Int)=0) || !decide ((0:Int)=0) || decide ((0:Int)<(A.length:Int)) || decide ((0:Int)<(B.length:Int)))=true:=by
  simp only[decide_true,Bool.not_true,Bool.false_or,Bool.or_eq_true,decide_eq_true_eq];omega
 repeat'(first|exact .nil|refine .k0 ?_|refine .k1 ?_|refine .k2 ?_|refine .k4 ?_|refine .k7 ?_|(refine .cd ?_ ?_<;>(intro hc;first|exact kf hc (by assumption)|skip))|refine .r1 ?_ ?_|(refine .l1 ?_;intro b)|(refine .m3 ?_ ?_;intro hlen)|refine .an rfl (by intro hob;first|exact r1|exact r2|exact hX|exact hY|exact example_ok) ?_ ?_|fail)
 ·intro h;simpa using h
 ·show Sx.Fin _ _ _ _;exact Zw
theorem recovers_ok(a b:Bs)(n:Int)(ha:a.length≤maxLen)(hb:b.length≤maxLen):Sx.Pure Tryz.prog 5 [.sl false 1 (a.map byteRow),.sl false 1 (b.map byteRow),iv n] (.v (.bool true)):=by
 obtain⟨x,hx⟩:∃ x,a.take 700=x:=⟨_,rfl⟩
 obtain⟨y,hy⟩:∃ y,b.take 700=y:=⟨_,rfl⟩
 have hxl:x.length≤700:=by rw[← hx,List.length_take];omega
 have hyl:y.length≤700:=by rw[← hy,List.length_take];omega
 have r1:=few_ok a 700 ha false
 have r2:=few_ok b 700 hb false
 rw[hx]at r1
 rw[hy]at r2
 have hX:=moduleA x false
 have hY:=moduleA y false
 have h0:∀ s:Bs,s.length≤700→(moduleP s).2.2=0:=fun s h=>by
  unfold moduleP
  rw[if_neg (by omega)]
 unfold moduleV at hX hY
 rw[h0 x hxl]at hX
 rw[h0 y hyl]at hY
 by_cases hbad:0<(moduleP x).2.1.length∨0<(moduleP y).2.1.length
 ·exact rec_bad a b x y n _ _ _ _ _ _ (by simpa using hbad) r1 r2 hX hY
 ·have bx:(moduleP x).2.1=[]:=List.eq_nil_of_length_eq_zero (by omega)
  have by_:(moduleP y).2.1=[]:=List.eq_nil_of_length_eq_zero (by omega)
  obtain⟨h1,h2,h3,h4⟩:=wr_ok (wrI n) (wrI_lt n)
  have hg:=it_get (wrI n) (wrI_lt n)
  have hwI:wrI n=if n.tmod 8<0 then(-(n.tmod 8)).toNat else(n.tmod 8).toNat:=rfl
  generalize (wrL.getD (wrI n) default)=e at h1 h2 h3 h4 hg
  obtain⟨w,p⟩:=e
  have ht1: -8<n.tmod 8∧n.tmod 8<8:=by
   have k1:=Int.tmod_lt_of_pos n (b:=8) (by decide)
   have k3:=Int.tmod_lt_of_pos (-n) (b:=8) (by decide)
   rw[Int.neg_tmod]at k3
   omega
  have hZ:=moduleA (x++10::(w++10::y)) false
  have hrec:=moduleP_recovers (x:=x) (y:=y) (m:=(moduleP x).1) (n:=(moduleP y).1) h1 ⟨by omega,by omega⟩ (Prod.ext rfl (Prod.ext bx (h0 x hxl))) (Prod.ext rfl (Prod.ext by_ (h0 y hyl)))
  unfold moduleV at hZ
  rw[hrec]at hZ
  rw[bx]at hX
  rw[by_]at hY
  have s1:=moduleP_size x
  have s2:=moduleP_size y
  refine rec_good a b x y w n (n.tmod 8) p (moduleP x).1 (moduleP y).1 rfl ht1 hxl hyl h4 (by omega) (by omega) ⟨h2,h3⟩ (fun ht=> ?_) (fun ht=> ?_) r1 r2 hX hY hZ
  ·rw[if_pos ht]at hwI
   rw[hwI]at hg
   rw[IntKind.wrap_i64,show(0-n.tmod 8+9223372036854775808) % 18446744073709551616-9223372036854775808= -(n.tmod 8) by omega]
   exact hg
  ·rw[if_neg ht]at hwI
   rw[hwI]at hg
   exact hg
theorem own:ownKnob Tryz.prog.godebug=none:=by kernel_rfl
theorem laidOut:laidOutB Tryz.prog=true:=by kernel_rfl
section
variable {H:Type}{enc:TypeId×Value→H}{W:World}
theorem rd_int(n:Nat):Rd enc Tryz.prog W n 3 fun l=>∃ z:Int,l=[iv z]:=(Rd.int Tryz.underlying3).mono fun l ⟨z,h,_⟩=>⟨z,h⟩
theorem rd_byte(n:Nat):Rd enc Tryz.prog W n 5 fun l=>∃ b:UInt8,l=byteRow b:=(Rd.int Tryz.underlying5).mono fun l ⟨z,h,hw⟩=>by
 simp only[Lit.wf,Bool.and_eq_true,decide_eq_true_eq]at hw
 have h1:(0:Int)≤z:=hw.1
 have h2:z≤255:=hw.2
 refine⟨UInt8.ofNat z.toNat,?_⟩
 rw[h]
 unfold byteRow
 have:(UInt8.ofNat z.toNat).toNat=z.toNat:=by simp;omega
 rw[this,Int.toNat_of_nonneg h1]
theorem rd_bytes:∀ n:Nat,Rd enc Tryz.prog W n 22 fun l=>∃ s:List UInt8,l=[.sl false 1 (s.map byteRow)]∧s.length≤maxLen
 |0=>Rd.zero _ _
 |n+1=>(Rd.slice Tryz.underlying22 (esz:=1) (by kernel_rfl) (by decide) (rd_byte n)).mono (by
  rintro _ ⟨rows,rfl,hm,h⟩
  obtain⟨ls,rfl,_⟩:=rows_map (f:=byteRow) (W:=fun _=>True) (fun r hr=>by obtain⟨x,h⟩:=h r hr;exact⟨x,h,trivial⟩)
  exact⟨ls,rfl,by simpa using hm⟩)
end
end Go.Proofs.YtdcpcffpapiadaaGreatDoor
namespace Go.Proofs.YtdcpcffpapiadaaGreatDoor
open Go.Sx Go.Proofs Go.Lib
theorem pc_of{W:World}{g:Nat}{x:AV}{v:Value}(hc:W.cell? ⟨g,0,none⟩=some v)(h:R (M0 W) x v):R (M0 W) (.pc [x]) (.pointer (some ⟨g,0,none⟩)):=by
 refine .pc [x] g 0 (fun _=>v) (fun k hk=> ?_) (fun k hk=> ?_)
 ·obtain rfl:k=0:=by simpa using hk
  exact hc
 ·obtain rfl:k=0:=by simpa using hk
  exact h
theorem pcs_of{W:World}{g:Nat}{vs:List Value}(hc:∀ k (h:k<vs.length),W.cell? ⟨g,k,none⟩=some vs[k]):R (M0 W) (.pc (vs.map AV.v)) (.pointer (some ⟨g,0,none⟩)):=by
 refine .pc _ g 0 (fun k=>vs.getD k undef) (fun k hk=> ?_) (fun k hk=> ?_)
 ·have hk':k<vs.length:=by simpa using hk
  rw[Nat.zero_add,List.getD_eq_getElem?_getD,List.getElem?_eq_getElem hk']
  exact hc k hk'
 ·have hk':k<vs.length:=by simpa using hk
  rw[List.getElem_map,List.getD_eq_getElem?_getD,List.getElem?_eq_getElem hk']
  exact .v _
theorem tab_of{W:World}{name:String}{d:DataW Unit}{G:Nat}{t e:TypeId}{n:Nat}{k:IntKind}{zs:List Int}(h:VarReads Tryz.prog W name d)(hd:d=tabData k zs)(hG:Tryz.prog.globalNamed name=some G)(hty:(Tryz.prog.globals[G]?).map (·.type)=some t)
  (ht:Tryz.prog.underlying t=some (.array n e)) (he:Tryz.prog.underlying e=some (.int k)) (h1:Tryz.prog.cellsOf e=1) (hn:Tryz.prog.cellsOf t=n):TabIs Tryz.prog W name k zs:=by
 obtain⟨g,t',cs,fuel,p,g1,g2,g3,g4⟩:=h
 obtain rfl:=Option.some.inj (hG.symm.trans g1)
 obtain rfl:=Option.some.inj (hty.symm.trans g2)
 rw[hd]at g4
 have:=cells_of_tab ht he h1 hn g4
 unfold TabIs
 rw[g3,← this]
theorem pc_tab{W:World}{name:String}{G:Nat}{k:IntKind}{zs:List Int}(h:TabIs Tryz.prog W name k zs)(hG:Tryz.prog.globalNamed name=some G):R (M0 W) (.pc ((zs.map fun z=>Value.int k z).map AV.v)) (.pointer (some ⟨G,0,none⟩)):=by
 refine pcs_of fun i hi=> ?_
 have hi':i<zs.length:=by simpa using hi
 have:=h.cell hG i hi'
 rw[this]
 simp[hi']
theorem globOK{W:World}(hL:laidMet Tryz.prog Rows.parserRecoversRow.laid W)(hsh:W.ShapedOpen Tryz.prog):GlobOK Tryz.prog W:=by
 have hpow:=laidMet.reads hL (n:= "internal/strconv.uint64pow10") (d:=Rows.laid_internal_strconv_uint64pow10) (by simp[Rows.parserRecoversRow])
 refine⟨fun g l h=> ?_,?_,?_⟩
 ·simp only[Glob.av]at h
  split at h
  ·cases h
   obtain⟨m,hm⟩:=cell_of_shapedOpen_int (g:=0) (zero:= #[.int .i64 0]) (t:=3) hsh (of_decide_eq_true (by kernel_rfl)) (by kernel_rfl) rfl (by kernel_rfl) (by kernel_rfl) Tryz.underlying3
   exact pc_of hm (.ai .i64 m)
  ·cases h
   have h1:=tab_of (k:= .i64) (zs:=[1,10,100,1000,10000,100000,1000000]) (n:=7) (G:=3) (t:=191) (e:=3) (laidMet.reads hL (n:= "asof/decimal.tens") (d:=Rows.laid_asof_decimal_tens) (by simp[Rows.parserRecoversRow])) (by rfl) (by kernel_rfl) (by kernel_rfl) Tryz.underlying191 Tryz.underlying3 (by kernel_rfl) (by kernel_rfl)
   exact pc_tab h1 (by kernel_rfl)
  ·cases h
   obtain⟨g,t,cs,fuel,p,h1,h2,h3,h4⟩:=laidMet.reads hL (n:= "strconv.ErrRange") (d:=Rows.laid_strconv_ErrRange) (by simp[Rows.parserRecoversRow])
   have hG:Tryz.prog.globalNamed "strconv.ErrRange" =some 5:=by kernel_rfl
   obtain rfl:=Option.some.inj (hG.symm.trans h1)
   have hty:(Tryz.prog.globals[5]?).map (·.type)=some 123:=by kernel_rfl
   obtain rfl:=Option.some.inj (hty.symm.trans h2)
   have hc0:=World.var?_cell hG h3 0
   have hstar: "*" ++ "errors.errorString" = "*errors.errorString" :=by decide
   cases fuel with
   |zero=>simp[DataW.trod]at h4
   |succ fuel=>
    unfold DataW.trod at h4
    rw[Tryz.underlying123]at h4
    clear hL hsh hpow h1 h2 hty h3
    generalize hcl:cs.toList=l at h4
    have e0:cs[0]? =l[0]? :=by rw[← hcl];simp
    rw[e0]at hc0
    clear e0 hcl
    have key:∃ u v,l=[.iface u v]∧Tryz.prog.typeName? 3 u=some "*errors.errorString" :=by
     unfold Rows.laid_strconv_ErrRange at h4
     split at h4
     all_goals first|(exfalso;rename_i heq;cases heq;done)|(exfalso;cases h4;done)|skip
     rename_i u v _
     refine⟨u,v,rfl,?_⟩
     cases hn:Tryz.prog.typeName? 3 u with
     |none=>rw[hn]at h4;cases h4
     |some nm=>
      rw[hn]at h4
      simp only[Option.map_eq_some_iff,Prod.mk.injEq,DataW.iface.injEq]at h4
      obtain⟨_,_,⟨rfl,_⟩,_⟩:=h4
      rfl
    obtain⟨u,v,rfl,hu⟩:=key
    obtain rfl:u=236:=typeName_ptr_named (nm:= "errors.errorString") (by rw[hstar];kernel_rfl) (by kernel_rfl) (by decide) u (by rw[hstar];exact hu)
    exact pc_of (hc0.trans rfl) (.ifc _ _ v (.any v))
  ·cases h
   have h1:=tab_of (k:= .u8) (zs:=firstTab) (n:=256) (G:=6) (t:=100) (e:=5) (laidMet.reads hL (n:= "unicode/utf8.first") (d:=Rows.laid_unicode_utf8_first) (by simp[Rows.parserRecoversRow])) (by kernel_rfl) (by kernel_rfl) (by kernel_rfl) Tryz.underlying100 Tryz.underlying5 (by kernel_rfl) (by kernel_rfl)
   have:=pc_tab h1 (G:=6) (by kernel_rfl)
   rw[show(firstTab.map fun z=>Value.int .u8 z).map AV.v=(List.range 256).map fun c=>AV.v (.int .u8 (Lib.firstT c:Nat)) by unfold firstTab;rw[List.map_map,List.map_map];rfl]at this
   exact this
  ·cases h
   have h4:=laidMet.reads hL (n:= "unicode/utf8.acceptRanges") (d:=Rows.laid_unicode_utf8_acceptRanges) (by simp[Rows.parserRecoversRow])
   rw[show(Rows.laid_unicode_utf8_acceptRanges:DataW Unit)=acceptData by kernel_rfl]at h4
   have hcell:∀ i,i<16→W.cell? ⟨7,2 * i,none⟩=some (.int .u8 (Lib.accLo i:Nat))∧W.cell? ⟨7,2 * i+1,none⟩=some (.int .u8 (Lib.accHi i:Nat)):=fun i hi=>by
    obtain⟨g,t,cs,fuel,p,hg,hty,hvar,hd⟩:=h4
    have hG:Tryz.prog.globalNamed "unicode/utf8.acceptRanges" =some 7:=by kernel_rfl
    obtain rfl:=Option.some.inj (hG.symm.trans hg)
    have hty':(Tryz.prog.globals[7]?).map (·.type)=some 223:=by kernel_rfl
    obtain rfl:=Option.some.inj (hty'.symm.trans hty)
    obtain⟨fuel',d,q,hdi,he⟩:=array_elem Tryz.underlying223 hd i hi
    simp only[List.getElem?_map,List.getElem?_range hi,Option.map_some,Option.some.injEq]at hdi
    subst hdi
    have c2:Tryz.prog.cellsOf 222=2:=by kernel_rfl
    rw[c2]at he
    have hcs:=ints_of_struct Tryz.underlying222 (fun j f hj=>by
     match j,hj with
     |0,hj=>simp at hj;subst hj;exact⟨Tryz.underlying5,rfl,by kernel_rfl⟩
     |1,hj=>simp at hj;subst hj;exact⟨Tryz.underlying5,rfl,by kernel_rfl⟩
     |j+2,hj=>simp at hj) (by rw[c2];rfl) he
    have e0:=congrArg (·[0]?) hcs
    have e1:=congrArg (·[1]?) hcs
    simp only[List.getElem?_take,List.getElem?_drop]at e0 e1
    constructor
    ·rw[World.var?_cell hG hvar (2 * i),← Array.getElem?_toList]
     simpa[Nat.mul_comm]using e0
    ·rw[World.var?_cell hG hvar (2 * i+1),← Array.getElem?_toList]
     simpa[Nat.mul_comm]using e1
   have hl:((List.range 16).flatMap fun i=>[AV.v (.int .u8 (Lib.accLo i:Nat)),AV.v (.int .u8 (Lib.accHi i:Nat))])=(((List.range 16).flatMap fun i=>[(Value.int .u8 (Lib.accLo i:Nat)),(Value.int .u8 (Lib.accHi i:Nat))]).map AV.v):=by kernel_rfl
   rw[hl]
   refine pcs_of fun k hk=> ?_
   have hk':k<32:=hk
   have key:∀ i:Fin 16,((List.range 16).flatMap fun i=>[(Value.int .u8 (Lib.accLo i:Nat)),(Value.int .u8 (Lib.accHi i:Nat))])[2 * i.val]? =some (Value.int .u8 (Lib.accLo i.val:Nat))∧
     ((List.range 16).flatMap fun i=>[(Value.int .u8 (Lib.accLo i:Nat)),(Value.int .u8 (Lib.accHi i:Nat))])[2 * i.val+1]? =some (Value.int .u8 (Lib.accHi i.val:Nat)):=by
    rintro⟨i,hi⟩
    have:i=0∨i=1∨i=2∨i=3∨i=4∨i=5∨i=6∨i=7∨i=8∨i=9∨i=10∨i=11∨i=12∨i=13∨i=14∨i=15:=by omega
    rcases this with rfl|rfl|rfl|rfl|rfl|rfl|rfl|rfl|rfl|rfl|rfl|rfl|rfl|rfl|rfl|rfl<;>exact⟨rfl,rfl⟩
   obtain⟨k1,k2⟩:=key ⟨k / 2,by omega⟩
   obtain⟨c1,c2⟩:=hcell (k / 2) (by omega)
   rcases Nat.mod_two_eq_zero_or_one k with e|e
   ·rw[show 2 * (k / 2)=k by omega]at c1 k1
    rw[c1,← k1,List.getElem?_eq_getElem hk]
   ·rw[show 2 * (k / 2)+1=k by omega]at c2 k2
    rw[c2,← k2,List.getElem?_eq_getElem hk]
  ·cases h
 ·exact tab_of (G:=8) hpow (by rfl) (by kernel_rfl) (t:=225) (n:=20) (e:=110) (by kernel_rfl) Tryz.underlying225 Tryz.underlying110 (by kernel_rfl) (by kernel_rfl)
 ·obtain⟨g,t,cs,fuel,p,h1,h2,h3,h4⟩:=hpow
  have hG:Tryz.prog.globalNamed "internal/strconv.uint64pow10" =some 8:=by kernel_rfl
  simp only[World.var?,hG,Option.bind_some]at h3
  split at h3
  ·rename_i e
   exact(Array.getElem?_eq_some_iff.1 e).1
  ·cases h3
end Go.Proofs.YtdcpcffpapiadaaGreatDoor
