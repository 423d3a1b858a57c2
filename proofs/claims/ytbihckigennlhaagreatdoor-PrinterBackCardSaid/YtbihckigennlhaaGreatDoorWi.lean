/- whole, walked. -/
import Derived.Test.YtbihckigennlhaaGreatDoorWh
set_option linter.unusedSimpArgs false
set_option linter.unusedVariables false
set_option linter.unusedSectionVars false
set_option maxRecDepth 100000
set_option maxHeartbeats 4000000
namespace Go.Sx
open Go.RowKit Go.Proofs
section
variable {P:Program}[Glob P]{N i:Nat}{v:Value}{Q:Exit→Regs→Store→Prop}{rg rg':Regs}{σ σ':Store}{s:SC}
theorem SWp_sub(hs:Sub σ' σ)(h:SWp P N i v s Q rg σ'):SWp P N i v s Q rg σ:=
 fun c hc hf M w0 a w hI hR hN hD hv=>h c hc hf M w0 a w (hI.sub hs) hR hN hD hv
theorem SWp_wk(hw:WkRL rg rg')(h:SWp P N i v s Q rg' σ):SWp P N i v s Q rg σ:=
 fun c hc hf M w0 a w hI hR hN hD hv=>h c hc hf M w0 a w hI (fun j=>(hw.lk j) _ _ (hR j)) hN hD hv
end
end Go.Sx
namespace Go.Proofs.YtbihckigennlhaaGreatDoor
open Go.Sx Go.Proofs
def wholeB{α:Type}(g:List Tok→PR α)(s:Bs):(Int×Int)×Option α:=
 if s.length>16384 then((0,2),none)else match(toksL s).2 with
 |b::_=>((b.at_,b.code),none)
 |[]=>match g (toksL s).1 with
  | .err p c=>((p,c),none)
  | .ok a L=>if(hd L).kind≠6 then(((hd L).at_,90),some a)else((0,0),some a)
def ReadOk{α:Type}(g:List Tok→PR α)(tx bx:Nat)(z:List AV)(vc:α→List AV)(f:Nat)(ys:List AV):Prop:=∀ L,Gd L→∀ b τ,Sx.Spec Tryz.prog f (.lp 1000 b 0::ys) ((1000,b,.cells (rdC L false))::(tx,bx,.cells z)::τ) fun x σ'=>match g L with
 | .ok a L'=>Gd L'∧x= .ret (.tup [])∧σ'=(1000,b,.cells (rdC L' false))::(tx,bx,.cells (vc a))::τ
 | .err p c=>x= .pan [entry p c false]∧∃ L' i',σ'=(1000,b,.cells (rdC L' i'))::(tx,bx,.cells z)::τ
def WholeR{α:Type}(r:(Int×Int)×Option α)(tx bx:Nat)(z:List AV)(vc:α→List AV)(τ:Store)(x:Res)(σ':Store):Prop:=
 x= .ret (.agg [iv r.1.1,iv r.1.2])∧σ'=(tx,bx,.cells (r.2.elim z vc))::τ
theorem whole_rest[g2:Glob Tryz.prog]{α:Type}(g:List Tok→PR α)(tx bx bb:Nat)(z:List AV)(vc:α→List AV)(f:Nat)(cap:Array Value)(τ:Store)(L:List Tok)(hL:Gd L)(r:(Int×Int)×Option α)
  (hr:r=match g L with
   | .err p c=>((p,c),none)
   | .ok a L=>if(hd L).kind≠6 then(((hd L).at_,90),some a)else((0,0),some a))
  (hcl:callable Tryz.prog f=true)
  (hW:∀ L,Gd L→∀ b τ,Sx.Spec Tryz.prog 76 [.lp 1000 b 0] ((1000,b,.cells (rdC L false++[]))::τ) fun x σ'=>∃ cs',RdR false [] (wrongP L:PR Unit) (fun _=> .any) x cs'∧σ'=(1000,b,.cells cs')::τ)
  (hf:∀ b τ,Sx.Spec Tryz.prog f (.lp 1000 b 0::cap.toList.map .v) ((1000,b,.cells (rdC L false))::(tx,bx,.cells z)::τ) fun x σ'=>match g L with
   | .ok a L'=>Gd L'∧x= .ret (.tup [])∧σ'=(1000,b,.cells (rdC L' false))::(tx,bx,.cells (vc a))::τ
   | .err p c=>x= .pan [entry p c false]∧∃ L' i',σ'=(1000,b,.cells (rdC L' i'))::(tx,bx,.cells z)::τ):
  SWp Tryz.prog 50 4 (.pointer (some ⟨bb,0,none⟩)) c2802.code (doorQ bb (WholeR r tx bx z vc τ)) [(1,.v (.func (.func f) #[] cap)),(4,.lp 4 bb 0),(5,.sl false 3 (L.map Tok.cells))] ((4,bb,.cells [iv 0,iv 0])::(tx,bx,.cells z)::τ):=by
 show SWp _ _ _ _ (.seq (.reg s2802_0) (.seq (.reg s2802_1) (.seq (.seq (.reg s2802_2) (.cond (.tmp 46) (.reg s2802_3) .skip)) (.seq (.reg s2802_4) .ret)))) _ _ _
 refine SWp_seq (SWp_regk (cfg:=fun _=>0) ?_)
 repeat'(first|exact .nil|refine .k1 ?_|refine .k2 ?_|refine .k3 ?_|refine .r1 ?_ ?_|(refine .m1 ?_ ?_;intro b)|fail)
 rename Nat=>b
 show SWp _ _ _ _ _ _ _ _
 refine SWp_filt (ks:=[1,4,8]) (rg':=[(1,.v (.func (.func f) #[] cap)),(4,.lp 4 bb 0),(8,.lp 35 b 0)]) rfl ?_
 refine SWp_wk (rg':=[(1,.v (.func (.func f) #[] cap)),(4,.lp 4 bb 0),(8,.lp 1000 b 0)]) (.cons (.refl _) (.cons (.refl _) (.cons .lp .nil))) ?_
 refine SWp_sub (σ':=(1000,b,.cells (rdC L false))::(4,bb,.cells [iv 0,iv 0])::(tx,bx,.cells z)::τ) (.same (.refl _)) ?_
 refine SWp_seq (SWp_regk (cfg:=fun _=>0) ?_)
 repeat'(first|exact .nil|refine .k2 ?_|refine .r1 ?_ ?_|fail)
 have hfs:=hf b ((4,bb,.cells [iv 0,iv 0])::τ)
 subst hr
 revert hfs
 cases hg:g L with
 |err p c=>
  intro hfs
  refine VX_specv rfl rfl hcl (hfs.permA (.cons _ (.swap _ _ _))) .nil (fun x σ' hR=> ?_) (fun ch σ' hR=> ?_)
  ·obtain⟨e,_⟩:=hR;cases e
  ·obtain⟨e,L',i',rfl⟩:=hR
   cases e
   refine FK_pan ?_
   show doorQ _ _ (.panic _) [] _
   refine⟨p,c,4,0,0,(tx,bx,.cells z)::τ,(1000,b,.cells (rdC L' i'))::(4,bb,.cells [iv 0,iv 0])::(tx,bx,.cells z)::τ,rfl,.cons _ (.swap _ _ _),.cons (.refl _),rfl,rfl⟩
 |ok a L'=>
  intro hfs
  refine VX_specv rfl rfl hcl (hfs.permA (.cons _ (.swap _ _ _))) .nil (fun x σ' hR=> ?_) (fun ch σ' hR=> ?_)
  ·obtain⟨hL',e,rfl⟩:=hR
   cases e
   repeat'(first|refine .k1 ?_|refine .k3 ?_|fail)
   show SWp _ _ _ _ _ _ _ _
   refine SWp_filt (ks:=[4,8]) (rg':=[(4,.lp 4 bb 0),(8,.lp 1000 b 0)]) rfl ?_
   refine SWp_perm (.cons _ (.swap _ _ _)) ?_
   have hp:=hL'.pos
   refine SWp_seq (SWp_seq (SWp_regk (cfg:=fun _=>0) ?_))
   unfold rdC
   repeat'(first|exact .nil|refine .k0 ?_|refine .k1 ?_|refine .k2 ?_|refine .k3 ?_|refine .r1 ?_ ?_|refine .t1 ?_ ?_ ?_|fail)
   any_goals(first|exact fun _=>⟨Int.le_refl _,hp⟩|skip)
   show SWp _ _ _ _ _ _ _ _
   refine SWp_filt (ks:=[4,8,46]) (rg':=[(4,.lp 4 bb 0),(8,.lp 1000 b 0),(46,.v (.bool (!decide ((L'.getD 0 default).kind=6))))]) rfl ?_
   rw[hd_getD]
   refine SWp_cond rfl (fun hc=> ?_) (fun hc=> ?_)
   ·have hk:(hd L').kind≠6:=by simpa using hc
    refine SWp_regk (cfg:=fun _=>0) ?_
    repeat'(first|exact .nil|refine .k2 ?_|refine .r1 ?_ ?_|fail)
    refine VX_spec rfl (hW L' hL' b ((4,bb,.cells [iv 0,iv 0])::(tx,bx,.cells (vc a))::τ)) .nil (fun x σ' hR=> ?_) (fun ch σ' hR=> ?_)
    ·obtain⟨_,⟨e,_⟩,_⟩:=hR;cases e
    ·obtain⟨cs',⟨e,L2,i',rfl⟩,rfl⟩:=hR
     cases e
     refine FK_pan ?_
     show doorQ _ _ (.panic _) [] _
     refine⟨(hd L').at_,90,4,0,0,(tx,bx,.cells (vc a))::τ,(1000,b,.cells (rdC L2 i'++[]))::(4,bb,.cells [iv 0,iv 0])::(tx,bx,.cells (vc a))::τ,rfl,.refl _,.cons (.refl _),?_⟩
     simp only[if_pos hk]
     exact⟨rfl,rfl⟩
   ·have hk:(hd L').kind=6:=by simpa using hc
    refine SWp_skip ?_
    show SWp _ _ _ _ _ _ _ _
    refine SWp_filt (ks:=[4]) (rg':=[(4,.lp 4 bb 0)]) rfl ?_
    refine SWp_seq (SWp_regk (cfg:=fun _=>0) ?_)
    repeat'(first|exact .nil|refine .k0 ?_|refine .k1 ?_|refine .k2 ?_|refine .k3 ?_|refine .r1 ?_ ?_|fail)
    show SWp _ _ _ _ _ _ _ _
    refine SWp_ret ?_
    refine⟨4,0,0,(tx,bx,.cells (vc a))::τ,_,.refl _,.cons (.refl _),?_⟩
    simp only[hk,ne_eq,not_true_eq_false,if_false]
    exact⟨rfl,rfl⟩
  ·obtain⟨_,e,_⟩:=hR;cases e
theorem SW_k{P:Program}[Glob P]{N:Nat}{cfg:Nat→Nat}{Q:Exit→Regs→Store→Prop}{rg:Regs}{σ:Store}{a:AC}(h:WK P N cfg Q a [] rg σ):SW P N a.erase Q rg σ:=h.h.h
def b2801:AC:=match a2801 with
 | .seq _ (.keep _ (.seq _ (.keep _ b)))=>b
 |a=>a
theorem SW_filt{P:Program}[Glob P]{N:Nat}{Q:Exit→Regs→Store→Prop}{rg rg':Regs}{σ:Store}{s:SC}{ks:List Nat}(hk:filt ks rg=rg')(h:SW P N s Q rg' σ):SW P N s Q rg σ:=SW.filt ks (hk ▸ h)
theorem whole_ok(hG:GreatOk)(hA:AnyOk){α:Type}(g:List Tok→PR α)(tx bx:Nat)(z:List AV)(vc:α→List AV)(f:Nat)(cap:Array Value)(hcl:callable Tryz.prog f=true)(hf:ReadOk g tx bx z vc f (cap.toList.map .v))
  (src:List UInt8) (nn:Bool) (hGd:src.length≤16384→Gd (toksL src).1) (τ:Store):
  Sx.Spec Tryz.prog 36 [.sl nn 1 (src.map byteRow),.v (.func (.func f) #[] cap)] ((tx,bx,.cells z)::τ) (WholeR (wholeB g src) tx bx z vc τ):=by
 refine whole_door _ rfl _ _ b2801.erase rfl ?_
 refine SW_k (a:= .reg s2801_0) (cfg:=fun _=>0) ?_
 repeat'(first|refine .k1 ?_|refine .k2 ?_|refine .k3 ?_|(refine .l1 ?_;intro b)|fail)
 rename Nat=>bb
 refine SW_k (a:= .reg s2801_1) (cfg:=fun _=>0) ?_
 repeat'(first|exact .nil|refine .k2 ?_|refine .r1 ?_ ?_|fail)
 have f1:(!decide ((2:Int)=0))=true:=by decide
 have g1:(!decide ((0:Int)=0))=false:=by decide
 have g2:decide ((0:Int)<((0:Nat):Int))=false:=by decide
 by_cases hl:16384<src.length
 ·refine VX_spec rfl (tokens_long src hl nn _) .nil (fun x σ' hR=> ?_) (fun ch σ' hR=>absurd hR.1 (by nofun))
  obtain⟨e,rfl⟩:=hR
  cases e
  repeat'(first|exact .nil|refine .k1 ?_|refine .k3 ?_|refine .r1 ?_ ?_|fail)
  show SW _ _ _ _ _ _
  refine SW_filt (ks:=[1,4,5,6,7]) (rg':=[(1,.v (.func (.func f) #[] cap)),(4,.lp 4 bb 0),(5,nilS),(6,nilS),(7,iv 2)]) rfl ?_
  refine SW_k (a:=b2801) (cfg:=fun _=>0) ?_
  show WK _ _ _ _ (.block _ _) _ _ _
  repeat'(first|exact .nil|refine .k0 ?_|refine .k1 ?_|refine .k2 ?_|refine .k6 ?_|refine .k7 ?_|(refine .cd ?_ ?_<;>(intro hc;first|exact kf hc (by assumption)|skip))|refine .r1 ?_ ?_|fail)
  refine⟨bb,4,4,0,2,(tx,bx,.cells z)::τ,_,rfl,.refl _,.refl _,?_⟩
  unfold wholeB
  rw[if_pos hl]
  exact⟨rfl,rfl⟩
 ·refine VX_spec rfl (tokens_ok hG hA src (by omega) nn _) .nil (fun x σ' hR=> ?_) (fun ch σ' hR=> ?_)
  ·obtain⟨badV,τb,hC,e,rfl⟩:=hR
   cases e
   have hL:=hGd (by omega)
   have hp:=hL.pos
   have g3:decide (((toksL src).1.length:Int)=0)=false:=decide_eq_false (by omega)
   rcases hC with⟨h0,rfl,rfl⟩|⟨h0,b2,u2,c2,rfl,rfl,_⟩
   ·repeat'(first|exact .nil|refine .k1 ?_|refine .k3 ?_|refine .r1 ?_ ?_|fail)
    show SW _ _ _ _ _ _
    refine SW_filt (ks:=[1,4,5,6,7]) (rg':=[(1,.v (.func (.func f) #[] cap)),(4,.lp 4 bb 0),(5,.sl false 3 (List.map Tok.cells (toksL src).1)),(6,nilS),(7,iv 0)]) rfl ?_
    refine SW_k (a:=b2801) (cfg:=fun _=>0) ?_
    show WK _ _ _ _ (.block _ _) _ _ _
    repeat'(first|exact .nil|refine .k0 ?_|refine .k1 ?_|refine .k2 ?_|refine .k3 ?_|refine .k6 ?_|refine .k9 ?_|(refine .cd ?_ ?_<;>(intro hc;first|exact kt hc (by assumption)|skip))|refine .r1 ?_ ?_|(refine .m2 ?_ ?_;intro hlen)|refine .r8 ?_ ?_|fail)
    have hn:(toksL src).2=[]:=List.map_eq_nil_iff.1 h0
    refine⟨bb,_,_,4,rfl,rfl,rfl,@whole_rest (globD Tryz.prog [dfr 75 bb]) α g tx bx bb z vc f cap τ (toksL src).1 hL (wholeB g src) ?_ hcl (fun L hL b τ=>Spec.toD (wrong_ok L hL false b [] τ)) (fun b τ=>Spec.toD (hf _ hL b τ))⟩
    unfold wholeB
    rw[if_neg hl,hn]
   ·obtain⟨pb,ps,hps⟩:∃ pb ps,(toksL src).2=pb::ps:=by
     cases hn:(toksL src).2 with
     |nil=>rw[hn]at h0;exact absurd rfl h0
     |cons pb ps=>exact⟨pb,ps,rfl⟩
    have hpos:0<((toksL src).2.length:Int):=by rw[hps];simp
    have g4:decide (0<((toksL src).2.length:Int))=true:=decide_eq_true hpos
    repeat'(first|exact .nil|refine .k1 ?_|refine .k3 ?_|refine .r1 ?_ ?_|fail)
    show SW _ _ _ _ _ _
    refine SW_filt (ks:=[1,4,5,6,7]) (rg':=[(1,.v (.func (.func f) #[] cap)),(4,.lp 4 bb 0),(5,.sl false 3 (List.map Tok.cells (toksL src).1)),(6,.own 2 12 b2 u2 c2 ((toksL src).2.map Prb.cells)),(7,iv 0)]) rfl ?_
    refine SW_k (a:=b2801) (cfg:=fun _=>0) ?_
    show WK _ _ _ _ (.block _ _) _ _ _
    repeat'(first|exact .nil|refine .k0 ?_|refine .k1 ?_|refine .k2 ?_|refine .k6 ?_|refine .k7 ?_|(refine .cd ?_ ?_<;>(intro hc;first|exact kf hc (by assumption)|exact kt hc (by assumption)|skip))|refine .r1 ?_ ?_|(refine .m2 ?_ ?_;intro hlen)|refine .t1 ?_ ?_ ?_|fail)
    any_goals(first|exact fun _=>⟨Int.le_refl _,hpos⟩|skip)
    have hd0:(toksL src).2.getD (Int.toNat 0) default=pb:=by rw[hps];rfl
    simp only[hd0]
    refine⟨bb,4,4,pb.at_,pb.code,(tx,bx,.cells z)::τ,_,rfl,.refl _,.cons (.refl _),?_⟩
    unfold wholeB
    rw[if_neg hl,hps]
    exact⟨rfl,rfl⟩
  ·obtain⟨badV,τb,hC,e,_⟩:=hR;cases e
def zE:List AV:=[iv 0,sv ⟨#[]⟩,sv ⟨#[]⟩,sv ⟨#[]⟩,iv 0,iv 0,sv ⟨#[]⟩,nilS,iv 0,iv 0,iv 0,nilS]
def exCells(x:Ex):List AV:=[iv x.kind,sv x.op,sv x.name,sv x.table,iv x.val.kind,iv x.val.n,sv x.val.s,.sl false 2 (x.unit.map Fac.cells),iv x.param,iv x.win.kind,iv x.win.size,.sl false 12 (x.args.map Ex.cells)]
def zT:List AV:=[iv 0,nilS,sv ⟨#[]⟩]
def tyCells(t:Ty):List AV:=[iv t.kind,.sl false 2 (t.unit.map Fac.cells),sv t.of]
theorem read_expr(hN:NormOk)(hD:DecOk)(bx:Nat):ReadOk (exprP N0 false) 2 bx zE exCells 37 [.v (.pointer (some ⟨bx,0,none⟩))]:=by
 intro L hL b τ
 refine Spec.wk (bs:=[.lp 1000 b 0,.lp 2 bx 0]) ?_ (.cons (.refl _) (.cons .raw .nil))
 have hx:=expr_ok hN hD false L hL
 cases hg:exprP N0 false L with
 |err p c=>
  rw[hg]at hx
  refine Spec.runk (fun _=>0) Tryz.func37 comp37 era37 (Nat.le_of_ble_eq_true rfl) ?_
  repeat'(first|exact .nil|refine .k2 ?_|refine .r1 ?_ ?_|fail)
  refine VX_rd rfl rfl rfl (fun τ'=>hx b [] τ') .nil (fun x cs' h=> ?_) (fun ch cs' h=> ?_)
  ·obtain⟨e,_⟩:=h;cases e
  ·obtain⟨e,L',i',rfl⟩:=h
   cases e
   refine FK_pan ?_
   rw[upt_hd]
   exact⟨rfl,L',i',rfl⟩
 |ok a L'=>
  rw[hg]at hx
  refine Spec.runk (fun _=>0) Tryz.func37 comp37 era37 (Nat.le_of_ble_eq_true rfl) ?_
  unfold zE exCells
  repeat'(first|exact .nil|refine .k2 ?_|refine .r1 ?_ ?_|fail)
  refine VX_rd rfl rfl rfl (fun τ'=>hx b [] τ') .nil (fun x cs' h=> ?_) (fun ch cs' h=> ?_)
  ·obtain⟨hL',e,rfl⟩:=h
   cases e
   rw[upt_hd]
   repeat'(first|exact .nil|refine .k0 ?_|refine .k1 ?_|refine .k3 ?_|refine .r1 ?_ ?_|refine .r2 ?_ ?_|fail)
   exact⟨hL',rfl,rfl⟩
  ·obtain⟨_,e,_⟩:=h;cases e
theorem read_type(hN:NormOk)(bx:Nat):ReadOk (kindP) 2 bx zT tyCells 57 [.v (.pointer (some ⟨bx,0,none⟩))]:=by
 intro L hL b τ
 refine Spec.wk (bs:=[.lp 1000 b 0,.lp 2 bx 0]) ?_ (.cons (.refl _) (.cons .raw .nil))
 have hx:=rd_kind wrong_ok hN L hL false
 cases hg:kindP L with
 |err p c=>
  rw[hg]at hx
  refine Spec.runk (fun _=>0) Tryz.func57 comp57 era57 (Nat.le_of_ble_eq_true rfl) ?_
  repeat'(first|exact .nil|refine .k2 ?_|refine .r1 ?_ ?_|fail)
  refine VX_rd rfl rfl rfl (fun τ'=>hx b [] τ') .nil (fun x cs' h=> ?_) (fun ch cs' h=> ?_)
  ·obtain⟨e,_⟩:=h;cases e
  ·obtain⟨e,L',i',rfl⟩:=h
   cases e
   refine FK_pan ?_
   rw[upt_hd]
   exact⟨rfl,L',i',rfl⟩
 |ok a L'=>
  rw[hg]at hx
  refine Spec.runk (fun _=>0) Tryz.func57 comp57 era57 (Nat.le_of_ble_eq_true rfl) ?_
  unfold zT tyCells
  repeat'(first|exact .nil|refine .k2 ?_|refine .r1 ?_ ?_|fail)
  refine VX_rd rfl rfl rfl (fun τ'=>hx b [] τ') .nil (fun x cs' h=> ?_) (fun ch cs' h=> ?_)
  ·obtain⟨hL',e,rfl⟩:=h
   cases e
   rw[upt_hd]
   repeat'(first|exact .nil|refine .k0 ?_|refine .k1 ?_|refine .k3 ?_|refine .r1 ?_ ?_|refine .r2 ?_ ?_|fail)
   exact⟨hL',rfl,rfl⟩
  ·obtain⟨_,e,_⟩:=h;cases e
def exprV(s:Bs):AV:=if(wholeB (exprP N0 false) s).1.2=0 then .tup [.agg ((wholeB (exprP N0 false) s).2.elim zE exCells),iv 0,iv 0]else .tup [.agg zE,iv (wholeB (exprP N0 false) s).1.1,iv (wholeB (exprP N0 false) s).1.2]
theorem exprS_ok(hG:GreatOk)(hA:AnyOk)(hN:NormOk)(hD:DecOk)(src:List UInt8)(nn:Bool)(hGd:src.length≤16384→Gd (toksL src).1):Pure Tryz.prog 9 [.sl nn 1 (src.map byteRow)] (exprV src):=by
 refine Pure.runk (fun _=>0) Tryz.func9 comp9 era9 (Nat.le_of_ble_eq_true rfl) fun σ=> ?_
 repeat'(first|exact .nil|refine .k0 ?_|refine .k1 ?_|refine .k2 ?_|refine .r1 ?_ ?_|(refine .l1 ?_;intro b)|fail)
 rename Nat=>bx
 have hw:=whole_ok hG hA (exprP N0 false) 2 bx zE exCells 37 #[.pointer (some ⟨bx,0,none⟩)] rfl (read_expr hN hD bx) src nn hGd σ
 unfold exprV
 obtain⟨r,hr⟩:∃ r,wholeB (exprP N0 false) src=r:=⟨_,rfl⟩
 rw[hr]at hw ⊢
 refine VX_spec rfl hw .nil (fun x σ' hR=> ?_) (fun ch σ' hR=> ?_)
 ·obtain⟨e,rfl⟩:=hR
  cases e
  obtain⟨⟨p,c⟩,o⟩:=r
  cases o
  all_goals
   simp only[Option.elim]
   unfold zE
   try unfold exCells
   repeat'(first|exact .nil|refine .k0 ?_|refine .k1 ?_|refine .k2 ?_|refine .k3 ?_|refine .k7 ?_|refine .k9 ?_|(refine .cd ?_ ?_<;>(intro hc;skip))|refine .r1 ?_ ?_|(refine .l1 ?_;intro b)|fail)
  all_goals
   first
   |exact Sx.Fin.intro Zs (if_neg (by simpa using hc)).symm
   |exact Sx.Fin.intro Zs (if_pos (by simpa using hc)).symm
 ·obtain⟨e,_⟩:=hR;cases e
def typeV(s:Bs):AV:=if(wholeB kindP s).1.2=0 then .tup [.agg ((wholeB kindP s).2.elim zT tyCells),iv 0,iv 0]else .tup [.agg zT,iv (wholeB kindP s).1.1,iv (wholeB kindP s).1.2]
theorem typeS_ok(hG:GreatOk)(hA:AnyOk)(hN:NormOk)(src:List UInt8)(nn:Bool)(hGd:src.length≤16384→Gd (toksL src).1):Pure Tryz.prog 22 [.sl nn 1 (src.map byteRow)] (typeV src):=by
 refine Pure.runk (fun _=>0) Tryz.func22 comp22 era22 (Nat.le_of_ble_eq_true rfl) fun σ=> ?_
 repeat'(first|exact .nil|refine .k0 ?_|refine .k1 ?_|refine .k2 ?_|refine .r1 ?_ ?_|(refine .l1 ?_;intro b)|fail)
 rename Nat=>bx
 have hw:=whole_ok hG hA kindP 2 bx zT tyCells 57 #[.pointer (some ⟨bx,0,none⟩)] rfl (read_type hN bx) src nn hGd σ
 unfold typeV
 obtain⟨r,hr⟩:∃ r,wholeB kindP src=r:=⟨_,rfl⟩
 rw[hr]at hw ⊢
 refine VX_spec rfl hw .nil (fun x σ' hR=> ?_) (fun ch σ' hR=> ?_)
 ·obtain⟨e,rfl⟩:=hR
  cases e
  obtain⟨⟨p,c⟩,o⟩:=r
  cases o
  all_goals
   simp only[Option.elim]
   unfold zT
   try unfold tyCells
   repeat'(first|exact .nil|refine .k0 ?_|refine .k1 ?_|refine .k2 ?_|refine .k3 ?_|refine .k7 ?_|refine .k9 ?_|(refine .cd ?_ ?_<;>(intro hc;skip))|refine .r1 ?_ ?_|(refine .l1 ?_;intro b)|fail)
  all_goals
   first
   |exact Sx.Fin.intro Zs (if_neg (by simpa using hc)).symm
   |exact Sx.Fin.intro Zs (if_pos (by simpa using hc)).symm
 ·obtain⟨e,_⟩:=hR;cases e
theorem tok_plain{k:Int}{x:List UInt8}{at_:Int}(h:x.length≤16384)(h2:k≠2)(h3:k≠3):TokOk ⟨k,⟨x.toArray⟩,at_⟩:=⟨by show x.toArray.size≤_;simpa using h,fun e=>absurd e h2,fun e=>absurd e h3⟩
theorem tok_int{x:List UInt8}{at_:Int}(h:x.length≤16384)(hd:DigL x)(he:intE x=0):TokOk ⟨2,⟨x.toArray⟩,at_⟩:=by
 refine⟨by show x.toArray.size≤_;simpa using h,fun _=> ?_,fun e=>absurd (show(2:Int)=3 from e) (by decide)⟩
 refine⟨by simpa using hd,?_⟩
 unfold intE at he
 split at he
 ·cases he
 ·show numL x.toArray.toList 0≤_
  simp only[List.toList_toArray]at *
  omega
theorem tok_dec{a b:List UInt8}{at_:Int}(h:(a++46::b).length≤16384)(ha:DigL a)(hb:DigL b)(he:decE (a++46::b)=0):TokOk ⟨3,⟨(a++46::b).toArray⟩,at_⟩:=by
 refine⟨by show(a++46::b).toArray.size≤_;simpa using h,fun e=>absurd (show(3:Int)=2 from e) (by decide),fun _=>⟨a,b,by simp,ha,hb,?_⟩⟩
 have h46:∀ c∈a,(c != 46)=true:=fun c hc=>by
  have:=ha.2 c hc
  simp only[bne_iff_ne,ne_eq]
  intro e;subst e;simp at this
 have e1:(a++46::b).takeWhile (fun b=>b != 46)=a:=by
  rw[List.takeWhile_append_of_pos h46];simp
 have e2:(a++46::b).dropWhile (fun b=>b != 46)=46::b:=by
  rw[List.dropWhile_append_of_pos h46];simp
 unfold decE at he
 simp only[e1,e2,List.drop_succ_cons,List.drop_zero]at he
 split at he
 ·cases he
 ·split at he
  ·cases he
  ·exact⟨by omega,by omega⟩
theorem head_split{l:List UInt8}{b:UInt8}(h:l.head? =some b):l=b::l.drop 1:=by
 cases l with
 |nil=>cases h
 |cons x r=>cases h;rfl
theorem piece_tok{s:List UInt8}(hs:s≠[])(hl:s.length≤16384)(at_:Int)(h0:(pieceL s).2.2=0)(h1:(pieceL s).1≠-1)(h2:(pieceL s).1≠4)(h3:(pieceL s).1≠0):TokOk ⟨(pieceL s).1,⟨(s.take (pieceL s).2.1).toArray⟩,at_⟩:=by
 obtain⟨c,r,rfl⟩:=List.exists_cons_of_ne_nil hs
 have hle:∀ n,((c::r).take n).length≤16384:=fun n=>by rw[List.length_take];omega
 by_cases c1:clsB c=1
 ·rw[p_1 c1]at h3;exact absurd rfl h3
 by_cases c6:clsB c=6
 ·rw[p_6 c6]at h3;exact absurd rfl h3
 by_cases c2:clsB c=2
 ·rw[p_2 c2];exact tok_plain (hle _) (show(1:Int)≠2 by decide) (show(1:Int)≠3 by decide)
 by_cases c3:clsB c=3
 ·have hn:0<spanN isD (c::r):=by unfold spanN;rw[List.takeWhile_cons,if_pos (by unfold isD;exact decide_eq_true c3)];simp
  rw[p_3 c3]at h0 ⊢
  generalize hN:spanN isD (c::r)=n at *
  generalize hT:(c::r).drop n=t at *
  generalize hM:spanN isD (t.drop 1)=m at *
  have hd:=dig_take (s:=c::r) (by omega)
  rw[hN]at hd
  split at h0
  ·rename_i hh
   rw[if_pos hh]at⊢
   have ht:=head_split hh.1
   have hb:=dig_take (s:=t.drop 1) (by omega)
   rw[hM]at hb
   have e:(c::r).take (n+1+m)=(c::r).take n++46::(t.drop 1).take m:=by
    conv=>lhs;rw[show n+1+m=n+(1+m) by omega,List.take_add,hT,ht,show 1+m=m+1 by omega,List.take_succ_cons]
   have hl2:=hle (n+1+m)
   simp only at h0 ⊢
   rw[e]at h0 hl2 ⊢
   exact tok_dec hl2 hd hb h0
  ·rename_i hh
   rw[if_neg hh]
   exact tok_int (hle _) hd h0
 by_cases c5:clsB c=5
 ·rw[p_5 c5]at h1 h2;split at h2
  ·exact absurd rfl h2
  ·rename_i hh;rw[if_neg hh]at h1;exact absurd rfl h1
 by_cases c7:clsB c=7∨clsB c=8
 ·rw[p_7 c7]at h1 ⊢
  split
  ·exact tok_plain (hle _) (by decide) (by decide)
  ·split
   ·exact tok_plain (hle _) (by decide) (by decide)
   ·rename_i a b;rw[if_neg a,if_neg b]at h1;exact absurd rfl h1
 ·rw[p_0 ⟨c1,c6,c2,c3,c5,fun e=>c7 (.inl e),fun e=>c7 (.inr e)⟩]at h1;exact absurd rfl h1
theorem lex_tok:∀ (n:Nat) (at_ st:Int) (s:List UInt8),s.length≤16384→(∀ t∈(lexL n at_ st s).1,TokOk t)∧(lexL n at_ st s).1.length≤s.length+1
 |0,at_,st,s,_=>⟨fun t ht=>by
   simp only[lexL,List.mem_singleton]at ht
   subst ht;exact tok_plain (x:=[]) (by simp) (by decide) (by decide),by simp[lexL]⟩
 |n+1,at_,st,[],_=>⟨fun t ht=>by
   rw[lex_nil]at ht
   simp only[List.mem_singleton]at ht
   subst ht;exact tok_plain (x:=[]) (by simp) (by decide) (by decide),by rw[lex_nil];simp⟩
 |n+1,at_,st,c::r,hl=>by
  have hs:c::r≠[]:=by simp
  have hpl:=piece_len hs
  have hk:=piece_tok hs hl at_
  rw[lex_step n at_ st hs]
  generalize hss:c::r=s at *
  generalize pieceL s=p at *
  have hd:∀ k,(s.drop k).length≤16384:=fun k=>by rw[List.length_drop];omega
  have i1:=lex_tok n (at_+1) at_ (s.drop 1) (hd 1)
  have i2:=lex_tok n (at_+p.2.1) st (s.drop p.2.1) (hd _)
  have l1:(s.drop 1).length+1≤s.length:=by rw[List.length_drop];omega
  have l2:(s.drop p.2.1).length+1≤s.length:=by rw[List.length_drop];omega
  split
  ·exact⟨i1.1,by have:=i1.2;simp only;omega⟩
  ·split
   ·exact⟨i2.1,by have:=i2.2;simp only;omega⟩
   ·split
    ·refine⟨fun t ht=> ?_,by have:=i2.2;simp only[List.length_cons];omega⟩
     rcases List.mem_cons.1 ht with rfl|ht
     ·exact tok_plain (by simp only[List.length_drop,List.length_take];omega) (by decide) (by decide)
     ·exact i2.1 t ht
    ·split
     ·refine⟨fun t ht=> ?_,by have:=i2.2;simp only[List.length_cons];omega⟩
      rcases List.mem_cons.1 ht with rfl|ht
      ·rename_i a b c d
       exact hk (by simpa using b) a c d
      ·exact i2.1 t ht
     ·exact⟨i2.1,by have:=i2.2;omega⟩
theorem toks_gd{s:List UInt8}(hl:s.length≤16384):Gd (toksL s).1:=
 ⟨lex_end _ _ _ _,(lex_tok _ _ _ s hl).1,by have:=(lex_tok s.length 0 (-1) s hl).2;show(lexL s.length 0 (-1) s).1.length≤_;omega⟩
end Go.Proofs.YtbihckigennlhaaGreatDoor
