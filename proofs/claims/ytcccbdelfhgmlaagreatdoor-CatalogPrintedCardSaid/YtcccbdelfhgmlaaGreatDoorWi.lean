/- whole, walked. -/
import Derived.Test.YtcccbdelfhgmlaaGreatDoorWh
set_option linter.unusedSimpArgs false
set_option linter.unusedVariables false
set_option linter.unusedSectionVars false
set_option maxRecDepth 100000
set_option maxHeartbeats 4000000
namespace Go.Sx
open Go.RowKit Go.Proofs
section
variable {P:Program}[Glob P]{N i:Nat}{v:Value}{Q:Exit→ag→Store→Prop}{rg ao:ag}{σ σ':Store}{s:SC}
theorem WO(hs:Sub σ' σ)(h:eO P N i v s Q rg σ'):eO P N i v s Q rg σ:=
 fun c hc hf M w0 a w hI hR hN hD hv=>h c hc hf M w0 a w (hI.sub hs) hR hN hD hv
theorem WQ(hw:fm rg ao)(h:eO P N i v s Q ao σ):eO P N i v s Q rg σ:=
 fun c hc hf M w0 a w hI hR hN hD hv=>h c hc hf M w0 a w hI (fun j=>(hw.lk j) _ _ (hR j)) hN hD hv
end
end Go.Sx
namespace Go.Proofs.YtcccbdelfhgmlaaGreatDoor
open Go.Sx Go.Proofs
def il{α:Type}(g:List Tok→PR α)(s:Bs):(Int×Int)×Option α:=
 if s.length>16384 then((0,2),none)else match(eU s).2 with
 |b::_=>((b.at_,b.code),none)
 |[]=>match g (eU s).1 with
  | .err p c=>((p,c),none)
  | .ok a L=>if(hd L).kind≠6 then(((hd L).at_,90),some a)else((0,0),some a)
def Mp{α:Type}(g:List Tok→PR α)(tx bx:Nat)(z:List AV)(vc:α→List AV)(f:Nat)(ys:List AV):Prop:=∀ L,Gd L→∀ b τ,Sx.Spec Tryz.prog f (.lp 1000 b 0::ys) ((1000,b,.cells (bD L false))::(tx,bx,.cells z)::τ) fun x σ'=>match g L with
 | .ok a L'=>Gd L'∧x= .ret (.aT [])∧σ'=(1000,b,.cells (bD L' false))::(tx,bx,.cells (vc a))::τ
 | .err p c=>x= .dn [entry p c false]∧∃ L' i',σ'=(1000,b,.cells (bD L' i'))::(tx,bx,.cells z)::τ
def ML{α:Type}(r:(Int×Int)×Option α)(tx bx:Nat)(z:List AV)(vc:α→List AV)(τ:Store)(x:dH)(σ':Store):Prop:=
 x= .ret (.agg [iv r.1.1,iv r.1.2])∧σ'=(tx,bx,.cells (r.2.elim z vc))::τ
theorem ax4[g2:Glob Tryz.prog]{α:Type}(g:List Tok→PR α)(tx bx bb:Nat)(z:List AV)(vc:α→List AV)(f:Nat)(cap:Array Value)(τ:Store)(L:List Tok)(hL:Gd L)(r:(Int×Int)×Option α)
  (hr:r=match g L with
   | .err p c=>((p,c),none)
   | .ok a L=>if(hd L).kind≠6 then(((hd L).at_,90),some a)else((0,0),some a))
  (b7:iU Tryz.prog f=true)
  (hW:∀ L,Gd L→∀ b τ,Sx.Spec Tryz.prog 44 [.lp 1000 b 0] ((1000,b,.cells (bD L false++[]))::τ) fun x σ'=>∃ cs',xd false [] (fX L:PR Unit) (fun _=> .any) x cs'∧σ'=(1000,b,.cells cs')::τ)
  (hf:∀ b τ,Sx.Spec Tryz.prog f (.lp 1000 b 0::cap.toList.map .v) ((1000,b,.cells (bD L false))::(tx,bx,.cells z)::τ) fun x σ'=>match g L with
   | .ok a L'=>Gd L'∧x= .ret (.aT [])∧σ'=(1000,b,.cells (bD L' false))::(tx,bx,.cells (vc a))::τ
   | .err p c=>x= .dn [entry p c false]∧∃ L' i',σ'=(1000,b,.cells (bD L' i'))::(tx,bx,.cells z)::τ):
  eO Tryz.prog 50 4 (.pointer (some ⟨bb,0,none⟩)) GV.code (Dx bb (ML r tx bx z vc τ)) [(1,.v (.func (.func f) #[] cap)),(4,.lp 4 bb 0),(5,.sl false 3 (L.map Tok.cells))] ((4,bb,.cells [iv 0,iv 0])::(tx,bx,.cells z)::τ):=by
 show eO _ _ _ _ (.seq (.cE T8) (.seq (.cE T9) (.seq (.seq (.cE Ua) (.cond (.tmp 46) (.cE Ub) .skip)) (.seq (.cE Uc) .ret)))) _ _ _
 refine Ai (Ah (cfg:=fun _=>0) ?_)
 repeat'(first|exact .nil|refine .k1 ?_|refine .k2 ?_|refine .k3 ?_|refine .r1 ?_ ?_|(refine .m1 ?_ ?_;intro b)|fail)
 rename Nat=>b
 show eO _ _ _ _ _ _ _ _
 refine C5 (ks:=[1,4,8]) (ao:=[(1,.v (.func (.func f) #[] cap)),(4,.lp 4 bb 0),(8,.lp 35 b 0)]) rfl ?_
 refine WQ (ao:=[(1,.v (.func (.func f) #[] cap)),(4,.lp 4 bb 0),(8,.lp 1000 b 0)]) (.cons (.refl _) (.cons (.refl _) (.cons .lp .nil))) ?_
 refine WO (σ':=(1000,b,.cells (bD L false))::(4,bb,.cells [iv 0,iv 0])::(tx,bx,.cells z)::τ) (.same (.refl _)) ?_
 refine Ai (Ah (cfg:=fun _=>0) ?_)
 repeat'(first|exact .nil|refine .k2 ?_|refine .r1 ?_ ?_|fail)
 have Bj:=hf b ((4,bb,.cells [iv 0,iv 0])::τ)
 subst hr
 revert Bj
 cases hg:g L with
 |err p c=>
  intro Bj
  refine jC rfl rfl b7 (Bj.permA (.cons _ (.swap _ _ _))) .nil (fun x σ' hR=> ?_) (fun ch σ' hR=> ?_)
  ·obtain⟨e,_⟩:=hR;cases e
  ·obtain⟨e,L',i',rfl⟩:=hR
   cases e
   refine bn ?_
   show Dx _ _ (.panic _) [] _
   refine⟨p,c,4,0,0,(tx,bx,.cells z)::τ,(1000,b,.cells (bD L' i'))::(4,bb,.cells [iv 0,iv 0])::(tx,bx,.cells z)::τ,rfl,.cons _ (.swap _ _ _),.cons (.refl _),rfl,rfl⟩
 |ok a L'=>
  intro Bj
  refine jC rfl rfl b7 (Bj.permA (.cons _ (.swap _ _ _))) .nil (fun x σ' hR=> ?_) (fun ch σ' hR=> ?_)
  ·obtain⟨dM,e,rfl⟩:=hR
   cases e
   repeat'(first|refine .k1 ?_|refine .k3 ?_|fail)
   show eO _ _ _ _ _ _ _ _
   refine C5 (ks:=[4,8]) (ao:=[(4,.lp 4 bb 0),(8,.lp 1000 b 0)]) rfl ?_
   refine WJ (.cons _ (.swap _ _ _)) ?_
   have hp:=dM.pos
   refine Ai (Ai (Ah (cfg:=fun _=>0) ?_))
   unfold bD
   repeat'(first|exact .nil|refine .k0 ?_|refine .k1 ?_|refine .k2 ?_|refine .k3 ?_|refine .r1 ?_ ?_|refine .t1 ?_ ?_ ?_|fail)
   any_goals(first|exact fun _=>⟨Int.le_refl _,hp⟩|skip)
   show eO _ _ _ _ _ _ _ _
   refine C5 (ks:=[4,8,46]) (ao:=[(4,.lp 4 bb 0),(8,.lp 1000 b 0),(46,.v (.bool (!decide ((L'.getD 0 default).kind=6))))]) rfl ?_
   rw[mW]
   refine WI rfl (fun hc=> ?_) (fun hc=> ?_)
   ·have hk:(hd L').kind≠6:=by simpa using hc
    refine Ah (cfg:=fun _=>0) ?_
    repeat'(first|exact .nil|refine .k2 ?_|refine .r1 ?_ ?_|fail)
    refine uL rfl (hW L' dM b ((4,bb,.cells [iv 0,iv 0])::(tx,bx,.cells (vc a))::τ)) .nil (fun x σ' hR=> ?_) (fun ch σ' hR=> ?_)
    ·obtain⟨_,⟨e,_⟩,_⟩:=hR;cases e
    ·obtain⟨cs',⟨e,L2,i',rfl⟩,rfl⟩:=hR
     cases e
     refine bn ?_
     show Dx _ _ (.panic _) [] _
     refine⟨(hd L').at_,90,4,0,0,(tx,bx,.cells (vc a))::τ,(1000,b,.cells (bD L2 i'++[]))::(4,bb,.cells [iv 0,iv 0])::(tx,bx,.cells (vc a))::τ,rfl,.refl _,.cons (.refl _),?_⟩
     simp only[Z8 hk]
     exact⟨rfl,rfl⟩
   ·have hk:(hd L').kind=6:=by simpa using hc
    refine WN ?_
    show eO _ _ _ _ _ _ _ _
    refine C5 (ks:=[4]) (ao:=[(4,.lp 4 bb 0)]) rfl ?_
    refine Ai (Ah (cfg:=fun _=>0) ?_)
    repeat'(first|exact .nil|refine .k0 ?_|refine .k1 ?_|refine .k2 ?_|refine .k3 ?_|refine .r1 ?_ ?_|fail)
    show eO _ _ _ _ _ _ _ _
    refine WM ?_
    refine⟨4,0,0,(tx,bx,.cells (vc a))::τ,_,.refl _,.cons (.refl _),?_⟩
    simp only[hk,ne_eq,not_true_eq_false,Zf]
    exact⟨rfl,rfl⟩
  ·obtain⟨_,e,_⟩:=hR;cases e
theorem Ag{P:Program}[Glob P]{N:Nat}{cfg:Nat→Nat}{Q:Exit→ag→Store→Prop}{rg:ag}{σ:Store}{a:AC}(h:WK P N cfg Q a [] rg σ):SW P N a.erase Q rg σ:=h.h.h
def Dh:AC:=match M8 with
 | .seq _ (.keep _ (.seq _ (.keep _ b)))=>b
 |a=>a
theorem Gs{P:Program}[Glob P]{N:Nat}{Q:Exit→ag→Store→Prop}{rg ao:ag}{σ:Store}{s:SC}{ks:List Nat}(hk:fG ks rg=ao)(h:SW P N s Q ao σ):SW P N s Q rg σ:=SW.fG ks (hk ▸ h)
theorem ax2(hG:wT)(hA:wP){α:Type}(g:List Tok→PR α)(tx bx:Nat)(z:List AV)(vc:α→List AV)(f:Nat)(cap:Array Value)(b7:iU Tryz.prog f=true)(hf:Mp g tx bx z vc f (cap.toList.map .v))
  (src:List UInt8) (nn:Bool) (Il:src.length≤16384→Gd (eU src).1) (τ:Store):
  Sx.Spec Tryz.prog 18 [.sl nn 1 (src.map ck),.v (.func (.func f) #[] cap)] ((tx,bx,.cells z)::τ) (ML (il g src) tx bx z vc τ):=by
 refine ax0 _ rfl _ _ Dh.erase rfl ?_
 refine Ag (a:= .cE Fg) (cfg:=fun _=>0) ?_
 repeat'(first|refine .k1 ?_|refine .k2 ?_|refine .k3 ?_|(refine .l1 ?_;intro b)|fail)
 rename Nat=>bb
 refine Ag (a:= .cE Fh) (cfg:=fun _=>0) ?_
 repeat'(first|exact .nil|refine .k2 ?_|refine .r1 ?_ ?_|fail)
 have f1:(!decide ((2:Int)=0))=true:=by decide
 have g1:(!decide ((0:Int)=0))=false:=by decide
 have g2:decide ((0:Int)<((0:Nat):Int))=false:=by decide
 by_cases hl:16384<src.length
 ·refine uL rfl (axf src hl nn _) .nil (fun x σ' hR=> ?_) (fun ch σ' hR=>absurd hR.1 (by nofun))
  obtain⟨e,rfl⟩:=hR
  cases e
  repeat'(first|exact .nil|refine .k1 ?_|refine .k3 ?_|refine .r1 ?_ ?_|fail)
  show SW _ _ _ _ _ _
  refine Gs (ks:=[1,4,5,6,7]) (ao:=[(1,.v (.func (.func f) #[] cap)),(4,.lp 4 bb 0),(5,gQ),(6,gQ),(7,iv 2)]) rfl ?_
  refine Ag (a:=Dh) (cfg:=fun _=>0) ?_
  show WK _ _ _ _ (.block _ _) _ _ _
  repeat'(first|exact .nil|refine .k0 ?_|refine .k1 ?_|refine .k2 ?_|refine .k6 ?_|refine .k7 ?_|(refine .cd ?_ ?_<;>(intro hc;first|exact kf hc (by assumption)|skip))|refine .r1 ?_ ?_|fail)
  refine⟨bb,4,4,0,2,(tx,bx,.cells z)::τ,_,rfl,.refl _,.refl _,?_⟩
  unfold il
  rw[Z8 hl]
  exact⟨rfl,rfl⟩
 ·refine uL rfl (axg hG hA src (by omega) nn _) .nil (fun x σ' hR=> ?_) (fun ch σ' hR=> ?_)
  ·obtain⟨dJ,dq,hC,e,rfl⟩:=hR
   cases e
   have hL:=Il (by omega)
   have hp:=hL.pos
   have g3:decide (((eU src).1.length:Int)=0)=false:=Zn (by omega)
   rcases hC with⟨h0,rfl,rfl⟩|⟨h0,b2,u2,c2,rfl,rfl,_⟩
   ·repeat'(first|exact .nil|refine .k1 ?_|refine .k3 ?_|refine .r1 ?_ ?_|fail)
    show SW _ _ _ _ _ _
    refine Gs (ks:=[1,4,5,6,7]) (ao:=[(1,.v (.func (.func f) #[] cap)),(4,.lp 4 bb 0),(5,.sl false 3 (List.map Tok.cells (eU src).1)),(6,gQ),(7,iv 0)]) rfl ?_
    refine Ag (a:=Dh) (cfg:=fun _=>0) ?_
    show WK _ _ _ _ (.block _ _) _ _ _
    repeat'(first|exact .nil|refine .k0 ?_|refine .k1 ?_|refine .k2 ?_|refine .k3 ?_|refine .k6 ?_|refine .k9 ?_|(refine .cd ?_ ?_<;>(intro hc;first|exact kt hc (by assumption)|skip))|refine .r1 ?_ ?_|(refine .m2 ?_ ?_;intro hlen)|refine .r8 ?_ ?_|fail)
    have hn:(eU src).2=[]:=YQ.1 h0
    refine⟨bb,_,_,4,rfl,rfl,rfl,@ax4 (sW Tryz.prog [uT 43 bb]) α g tx bx bb z vc f cap τ (eU src).1 hL (il g src) ?_ b7 (fun L hL b τ=>Spec.toD (zO L hL false b [] τ)) (fun b τ=>Spec.toD (hf _ hL b τ))⟩
    unfold il
    rw[Z9 hl,hn]
   ·obtain⟨pb,ps,ak⟩:∃ pb ps,(eU src).2=pb::ps:=by
     cases hn:(eU src).2 with
     |nil=>rw[hn]at h0;exact absurd rfl h0
     |cons pb ps=>exact⟨pb,ps,rfl⟩
    have pN:0<((eU src).2.length:Int):=by rw[ak];simp
    have g4:decide (0<((eU src).2.length:Int))=true:=Zi pN
    repeat'(first|exact .nil|refine .k1 ?_|refine .k3 ?_|refine .r1 ?_ ?_|fail)
    show SW _ _ _ _ _ _
    refine Gs (ks:=[1,4,5,6,7]) (ao:=[(1,.v (.func (.func f) #[] cap)),(4,.lp 4 bb 0),(5,.sl false 3 (List.map Tok.cells (eU src).1)),(6,.own 2 12 b2 u2 c2 ((eU src).2.map dW.cells)),(7,iv 0)]) rfl ?_
    refine Ag (a:=Dh) (cfg:=fun _=>0) ?_
    show WK _ _ _ _ (.block _ _) _ _ _
    repeat'(first|exact .nil|refine .k0 ?_|refine .k1 ?_|refine .k2 ?_|refine .k6 ?_|refine .k7 ?_|(refine .cd ?_ ?_<;>(intro hc;first|exact kf hc (by assumption)|exact kt hc (by assumption)|skip))|refine .r1 ?_ ?_|(refine .m2 ?_ ?_;intro hlen)|refine .t1 ?_ ?_ ?_|fail)
    any_goals(first|exact fun _=>⟨Int.le_refl _,pN⟩|skip)
    have hd0:(eU src).2.getD (Int.toNat 0) default=pb:=by rw[ak];rfl
    simp only[hd0]
    refine⟨bb,4,4,pb.at_,pb.code,(tx,bx,.cells z)::τ,_,rfl,.refl _,.cons (.refl _),?_⟩
    unfold il
    rw[Z9 hl,ak]
    exact⟨rfl,rfl⟩
  ·obtain⟨dJ,dq,hC,e,_⟩:=hR;cases e
def zE:List AV:=[iv 0,sv ⟨#[]⟩,sv ⟨#[]⟩,sv ⟨#[]⟩,iv 0,iv 0,sv ⟨#[]⟩,gQ,iv 0,iv 0,iv 0,gQ]
def xA(x:Ex):List AV:=[iv x.kind,sv x.op,sv x.name,sv x.table,iv x.val.kind,iv x.val.n,sv x.val.s,.sl false 2 (x.unit.map ar.cells),iv x.param,iv x.win.kind,iv x.win.size,.sl false 12 (x.args.map Ex.cells)]
theorem ahZ(hN:uG)(hD:wS)(bx:Nat):Mp (bW N0 false) 2 bx zE xA 19 [.v (.pointer (some ⟨bx,0,none⟩))]:=by
 intro L hL b τ
 refine Spec.wk (bs:=[.lp 1000 b 0,.lp 2 bx 0]) ?_ (.cons (.refl _) (.cons .raw .nil))
 have hx:=adR hN hD false L hL
 cases hg:bW N0 false L with
 |err p c=>
  rw[hg]at hx
  refine Spec.dF (fun _=>0) Tryz.func19 Og OV (Z7 rfl) ?_
  repeat'(first|exact .nil|refine .k2 ?_|refine .r1 ?_ ?_|fail)
  refine o5 rfl rfl rfl (fun dv=>hx b [] dv) .nil (fun x cs' h=> ?_) (fun ch cs' h=> ?_)
  ·obtain⟨e,_⟩:=h;cases e
  ·obtain⟨e,L',i',rfl⟩:=h
   cases e
   refine bn ?_
   rw[aM]
   exact⟨rfl,L',i',rfl⟩
 |ok a L'=>
  rw[hg]at hx
  refine Spec.dF (fun _=>0) Tryz.func19 Og OV (Z7 rfl) ?_
  unfold zE xA
  repeat'(first|exact .nil|refine .k2 ?_|refine .r1 ?_ ?_|fail)
  refine o5 rfl rfl rfl (fun dv=>hx b [] dv) .nil (fun x cs' h=> ?_) (fun ch cs' h=> ?_)
  ·obtain⟨dM,e,rfl⟩:=h
   cases e
   rw[aM]
   repeat'(first|exact .nil|refine .k0 ?_|refine .k1 ?_|refine .k3 ?_|refine .r1 ?_ ?_|refine .r2 ?_ ?_|fail)
   exact⟨dM,rfl,rfl⟩
  ·obtain⟨_,e,_⟩:=h;cases e
def DA(s:Bs):AV:=if(il (bW N0 false) s).1.2=0 then .aT [.agg ((il (bW N0 false) s).2.elim zE xA),iv 0,iv 0]else .aT [.agg zE,iv (il (bW N0 false) s).1.1,iv (il (bW N0 false) s).1.2]
theorem adN(hG:wT)(hA:wP)(hN:uG)(hD:wS)(src:List UInt8)(nn:Bool)(Il:src.length≤16384→Gd (eU src).1):Pure Tryz.prog 8 [.sl nn 1 (src.map ck)] (DA src):=by
 refine Pure.dF (fun _=>0) Tryz.func8 acm adA (Z7 rfl) fun σ=> ?_
 repeat'(first|exact .nil|refine .k0 ?_|refine .k1 ?_|refine .k2 ?_|refine .r1 ?_ ?_|(refine .l1 ?_;intro b)|fail)
 rename Nat=>bx
 have hw:=ax2 hG hA (bW N0 false) 2 bx zE xA 19 #[.pointer (some ⟨bx,0,none⟩)] rfl (ahZ hN hD bx) src nn Il σ
 unfold DA
 obtain⟨r,hr⟩:∃ r,il (bW N0 false) src=r:=⟨_,rfl⟩
 rw[hr]at hw ⊢
 refine uL rfl hw .nil (fun x σ' hR=> ?_) (fun ch σ' hR=> ?_)
 ·obtain⟨e,rfl⟩:=hR
  cases e
  obtain⟨⟨p,c⟩,o⟩:=r
  cases o
  all_goals
   simp only[Option.elim]
   unfold zE
   try unfold xA
   repeat'(first|exact .nil|refine .k0 ?_|refine .k1 ?_|refine .k2 ?_|refine .k3 ?_|refine .k7 ?_|refine .k9 ?_|(refine .cd ?_ ?_<;>(intro hc;skip))|refine .r1 ?_ ?_|(refine .l1 ?_;intro b)|fail)
  all_goals
   first
   |exact Sx.Fin.intro Zs (Z9 (by simpa using hc)).symm
   |exact Sx.Fin.intro Zs (Z8 (by simpa using hc)).symm
 ·obtain⟨e,_⟩:=hR;cases e
theorem zG{k:Int}{x:List UInt8}{at_:Int}(h:x.length≤16384)(h2:k≠2)(h3:k≠3):o0 ⟨k,⟨x.toArray⟩,at_⟩:=⟨by show x.toArray.size≤_;simpa using h,fun e=>absurd e h2,fun e=>absurd e h3⟩
theorem axd{x:List UInt8}{at_:Int}(h:x.length≤16384)(hd:jk x)(he:nr x=0):o0 ⟨2,⟨x.toArray⟩,at_⟩:=by
 refine⟨by show x.toArray.size≤_;simpa using h,fun _=> ?_,fun e=>absurd (show(2:Int)=3 from e) (by decide)⟩
 refine⟨by simpa using hd,?_⟩
 unfold nr at he
 split at he
 ·cases he
 ·show cD x.toArray.toList 0≤_
  simp only[List.toList_toArray]at *
  omega
theorem axc{a b:List UInt8}{at_:Int}(h:(a++46::b).length≤16384)(ha:jk a)(hb:jk b)(he:kL (a++46::b)=0):o0 ⟨3,⟨(a++46::b).toArray⟩,at_⟩:=by
 refine⟨by show(a++46::b).toArray.size≤_;simpa using h,fun e=>absurd (show(3:Int)=2 from e) (by decide),fun _=>⟨a,b,by simp,ha,hb,?_⟩⟩
 have u0:∀ c∈a,(c != 46)=true:=fun c hc=>by
  have:=ha.2 c hc
  simp only[bne_iff_ne,ne_eq]
  intro e;subst e;simp at this
 have e1:(a++46::b).takeWhile (fun b=>b != 46)=a:=by
  rw[List.takeWhile_append_of_pos u0];simp
 have e2:(a++46::b).dropWhile (fun b=>b != 46)=46::b:=by
  rw[List.dropWhile_append_of_pos u0];simp
 unfold kL at he
 simp only[e1,e2,List.drop_succ_cons,List.drop_zero]at he
 split at he
 ·cases he
 ·split at he
  ·cases he
  ·exact⟨by omega,by omega⟩
theorem aeI{l:List UInt8}{b:UInt8}(h:l.head? =some b):l=b::l.drop 1:=by
 cases l with
 |nil=>cases h
 |cons x r=>cases h;rfl
theorem aho{s:List UInt8}(hs:s≠[])(hl:s.length≤16384)(at_:Int)(h0:(aS s).2.2=0)(h1:(aS s).1≠-1)(h2:(aS s).1≠4)(h3:(aS s).1≠0):o0 ⟨(aS s).1,⟨(s.take (aS s).2.1).toArray⟩,at_⟩:=by
 obtain⟨c,r,rfl⟩:=List.exists_cons_of_ne_nil hs
 have hle:∀ n,((c::r).take n).length≤16384:=fun n=>by rw[ZK];omega
 by_cases c1:aE c=1
 ·rw[p_1 c1]at h3;exact absurd rfl h3
 by_cases c6:aE c=6
 ·rw[E1 c6]at h3;exact absurd rfl h3
 by_cases c2:aE c=2
 ·rw[Kp c2];exact zG (hle _) (show(1:Int)≠2 by decide) (show(1:Int)≠3 by decide)
 by_cases c3:aE c=3
 ·have hn:0<aC bz (c::r):=by unfold aC;rw[Zl,Z8 (by unfold bz;exact Zi c3)];simp
  rw[EZ c3]at h0 ⊢
  generalize hN:aC bz (c::r)=n at *
  generalize hT:(c::r).drop n=t at *
  generalize hM:aC bz (t.drop 1)=m at *
  have hd:=AJ (s:=c::r) (by omega)
  rw[hN]at hd
  split at h0
  ·rename_i hh
   rw[Z8 hh]at⊢
   have ht:=aeI hh.1
   have hb:=AJ (s:=t.drop 1) (by omega)
   rw[hM]at hb
   have e:(c::r).take (n+1+m)=(c::r).take n++46::(t.drop 1).take m:=by
    conv=>lhs;rw[show n+1+m=n+(1+m) by omega,List.take_add,hT,ht,show 1+m=m+1 by omega,Yc]
   have oi:=hle (n+1+m)
   simp only at h0 ⊢
   rw[e]at h0 oi ⊢
   exact axc oi hd hb h0
  ·rename_i hh
   rw[Z9 hh]
   exact axd (hle _) hd h0
 by_cases c5:aE c=5
 ·rw[E0 c5]at h1 h2;split at h2
  ·exact absurd rfl h2
  ·rename_i hh;rw[Z9 hh]at h1;exact absurd rfl h1
 by_cases c7:aE c=7∨aE c=8
 ·rw[tQ c7]at h1 ⊢
  split
  ·exact zG (hle _) (by decide) (by decide)
  ·split
   ·exact zG (hle _) (by decide) (by decide)
   ·rename_i a b;rw[Z9 a,Z9 b]at h1;exact absurd rfl h1
 ·rw[Ko ⟨c1,c6,c2,c3,c5,fun e=>c7 (.inl e),fun e=>c7 (.inr e)⟩]at h1;exact absurd rfl h1
theorem Ey:∀ (n:Nat) (at_ st:Int) (s:List UInt8),s.length≤16384→(∀ t∈(dB n at_ st s).1,o0 t)∧(dB n at_ st s).1.length≤s.length+1
 |0,at_,st,s,_=>⟨fun t ht=>by
   simp only[dB,ZI]at ht
   subst ht;exact zG (x:=[]) (by simp) (by decide) (by decide),by simp[dB]⟩
 |n+1,at_,st,[],_=>⟨fun t ht=>by
   rw[lex_nil]at ht
   simp only[ZI]at ht
   subst ht;exact zG (x:=[]) (by simp) (by decide) (by decide),by rw[lex_nil];simp⟩
 |n+1,at_,st,c::r,hl=>by
  have hs:c::r≠[]:=by simp
  have tp:=Ku hs
  have hk:=aho hs hl at_
  rw[vL n at_ st hs]
  generalize iJ:c::r=s at *
  generalize aS s=p at *
  have hd:∀ k,(s.drop k).length≤16384:=fun k=>by rw[Zj];omega
  have i1:=Ey n (at_+1) at_ (s.drop 1) (hd 1)
  have i2:=Ey n (at_+p.2.1) st (s.drop p.2.1) (hd _)
  have l1:(s.drop 1).length+1≤s.length:=by rw[Zj];omega
  have l2:(s.drop p.2.1).length+1≤s.length:=by rw[Zj];omega
  split
  ·exact⟨i1.1,by have:=i1.2;simp only;omega⟩
  ·split
   ·exact⟨i2.1,by have:=i2.2;simp only;omega⟩
   ·split
    ·refine⟨fun t ht=> ?_,by have:=i2.2;simp only[Z6];omega⟩
     rcases ZV.1 ht with rfl|ht
     ·exact zG (by simp only[Zj,ZK];omega) (by decide) (by decide)
     ·exact i2.1 t ht
    ·split
     ·refine⟨fun t ht=> ?_,by have:=i2.2;simp only[Z6];omega⟩
      rcases ZV.1 ht with rfl|ht
      ·rename_i a b c d
       exact hk (by simpa using b) a c d
      ·exact i2.1 t ht
     ·exact⟨i2.1,by have:=i2.2;omega⟩
theorem axh{s:List UInt8}(hl:s.length≤16384):Gd (eU s).1:=
 ⟨yx _ _ _ _,(Ey _ _ _ s hl).1,by have:=(Ey s.length 0 (-1) s hl).2;show(dB s.length 0 (-1) s).1.length≤_;omega⟩
end Go.Proofs.YtcccbdelfhgmlaaGreatDoor
