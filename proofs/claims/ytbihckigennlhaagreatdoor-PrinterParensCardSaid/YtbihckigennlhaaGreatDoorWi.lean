/- whole, walked. -/
import Derived.Test.YtbihckigennlhaaGreatDoorWh
set_option linter.unusedSimpArgs false
set_option linter.unusedVariables false
set_option linter.unusedSectionVars false
set_option maxRecDepth 100000
set_option maxHeartbeats 4000000
namespace Go.Sx
open Go.RowKit Go.Proofs
section
variable {P:Program}[Glob P]{N i:Nat}{v:Value}{Q:Exit→ae→Store→Prop}{rg ao:ae}{σ σ':Store}{s:SC}
theorem QM(hs:Sub σ' σ)(h:ej P N i v s Q rg σ'):ej P N i v s Q rg σ:=
 fun c hc hf M w0 a w hI hR hN hD hv=>h c hc hf M w0 a w (hI.sub hs) hR hN hD hv
theorem QN(hw:eJ rg ao)(h:ej P N i v s Q ao σ):ej P N i v s Q rg σ:=
 fun c hc hf M w0 a w hI hR hN hD hv=>h c hc hf M w0 a w hI (fun j=>(hw.lk j) _ _ (hR j)) hN hD hv
end
end Go.Sx
namespace Go.Proofs.YtbihckigennlhaaGreatDoor
open Go.Sx Go.Proofs
def jq{α:Type}(g:List Tok→PR α)(s:Bs):(Int×Int)×Option α:=
 if s.length>16384 then((0,2),none)else match(dh s).2 with
 |b::_=>((b.at_,b.code),none)
 |[]=>match g (dh s).1 with
  | .err p c=>((p,c),none)
  | .ok a L=>if(hd L).kind≠6 then(((hd L).at_,90),some a)else((0,0),some a)
def HS{α:Type}(g:List Tok→PR α)(tx bx:Nat)(z:List AV)(vc:α→List AV)(f:Nat)(ys:List AV):Prop:=∀ L,Gd L→∀ b τ,Sx.Spec Tryz.prog f (.lp 1000 b 0::ys) ((1000,b,.cells (bh L false))::(tx,bx,.cells z)::τ) fun x σ'=>match g L with
 | .ok a L'=>Gd L'∧x= .ret (.aI [])∧σ'=(1000,b,.cells (bh L' false))::(tx,bx,.cells (vc a))::τ
 | .err p c=>x= .cL [entry p c false]∧∃ L' i',σ'=(1000,b,.cells (bh L' i'))::(tx,bx,.cells z)::τ
def Ic{α:Type}(r:(Int×Int)×Option α)(tx bx:Nat)(z:List AV)(vc:α→List AV)(τ:Store)(x:dj)(σ':Store):Prop:=
 x= .ret (.agg [iv r.1.1,iv r.1.2])∧σ'=(tx,bx,.cells (r.2.elim z vc))::τ
theorem azq[g2:Glob Tryz.prog]{α:Type}(g:List Tok→PR α)(tx bx bb:Nat)(z:List AV)(vc:α→List AV)(f:Nat)(cap:Array Value)(τ:Store)(L:List Tok)(hL:Gd L)(r:(Int×Int)×Option α)
  (hr:r=match g L with
   | .err p c=>((p,c),none)
   | .ok a L=>if(hd L).kind≠6 then(((hd L).at_,90),some a)else((0,0),some a))
  (bJ:gV Tryz.prog f=true)
  (hW:∀ L,Gd L→∀ b τ,Sx.Spec Tryz.prog 76 [.lp 1000 b 0] ((1000,b,.cells (bh L false++[]))::τ) fun x σ'=>∃ cs',uC false [] (eS L:PR Unit) (fun _=> .any) x cs'∧σ'=(1000,b,.cells cs')::τ)
  (hf:∀ b τ,Sx.Spec Tryz.prog f (.lp 1000 b 0::cap.toList.map .v) ((1000,b,.cells (bh L false))::(tx,bx,.cells z)::τ) fun x σ'=>match g L with
   | .ok a L'=>Gd L'∧x= .ret (.aI [])∧σ'=(1000,b,.cells (bh L' false))::(tx,bx,.cells (vc a))::τ
   | .err p c=>x= .cL [entry p c false]∧∃ L' i',σ'=(1000,b,.cells (bh L' i'))::(tx,bx,.cells z)::τ):
  ej Tryz.prog 50 4 (.pointer (some ⟨bb,0,none⟩)) Dp.code (AG bb (Ic r tx bx z vc τ)) [(1,.v (.func (.func f) #[] cap)),(4,.lp 4 bb 0),(5,.sl false 3 (L.map Tok.cells))] ((4,bb,.cells [iv 0,iv 0])::(tx,bx,.cells z)::τ):=by
 show ej _ _ _ _ (.seq (.cj Ov) (.seq (.cj Ow) (.seq (.seq (.cj Ox) (.cond (.tmp 46) (.cj Oy) .skip)) (.seq (.cj Oz) .ret)))) _ _ _
 refine xf (xe (cfg:=fun _=>0) ?_)
 repeat'(first|exact .nil|refine .k1 ?_|refine .k2 ?_|refine .k3 ?_|refine .r1 ?_ ?_|(refine .m1 ?_ ?_;intro b)|fail)
 rename Nat=>b
 show ej _ _ _ _ _ _ _ _
 refine Ag (ks:=[1,4,8]) (ao:=[(1,.v (.func (.func f) #[] cap)),(4,.lp 4 bb 0),(8,.lp 35 b 0)]) rfl ?_
 refine QN (ao:=[(1,.v (.func (.func f) #[] cap)),(4,.lp 4 bb 0),(8,.lp 1000 b 0)]) (.cons (.refl _) (.cons (.refl _) (.cons .lp .nil))) ?_
 refine QM (σ':=(1000,b,.cells (bh L false))::(4,bb,.cells [iv 0,iv 0])::(tx,bx,.cells z)::τ) (.same (.refl _)) ?_
 refine xf (xe (cfg:=fun _=>0) ?_)
 repeat'(first|exact .nil|refine .k2 ?_|refine .r1 ?_ ?_|fail)
 have x3:=hf b ((4,bb,.cells [iv 0,iv 0])::τ)
 subst hr
 revert x3
 cases hg:g L with
 |err p c=>
  intro x3
  refine iP rfl rfl bJ (x3.permA (.cons _ (.swap _ _ _))) .nil (fun x σ' hR=> ?_) (fun ch σ' hR=> ?_)
  ·obtain⟨e,_⟩:=hR;cases e
  ·obtain⟨e,L',i',rfl⟩:=hR
   cases e
   refine aR ?_
   show AG _ _ (.panic _) [] _
   refine⟨p,c,4,0,0,(tx,bx,.cells z)::τ,(1000,b,.cells (bh L' i'))::(4,bb,.cells [iv 0,iv 0])::(tx,bx,.cells z)::τ,rfl,.cons _ (.swap _ _ _),.cons (.refl _),rfl,rfl⟩
 |ok a L'=>
  intro x3
  refine iP rfl rfl bJ (x3.permA (.cons _ (.swap _ _ _))) .nil (fun x σ' hR=> ?_) (fun ch σ' hR=> ?_)
  ·obtain⟨dq,e,rfl⟩:=hR
   cases e
   repeat'(first|refine .k1 ?_|refine .k3 ?_|fail)
   show ej _ _ _ _ _ _ _ _
   refine Ag (ks:=[4,8]) (ao:=[(4,.lp 4 bb 0),(8,.lp 1000 b 0)]) rfl ?_
   refine QI (.cons _ (.swap _ _ _)) ?_
   have hp:=dq.pos
   refine xf (xf (xe (cfg:=fun _=>0) ?_))
   unfold bh
   repeat'(first|exact .nil|refine .k0 ?_|refine .k1 ?_|refine .k2 ?_|refine .k3 ?_|refine .r1 ?_ ?_|refine .t1 ?_ ?_ ?_|fail)
   any_goals(first|exact fun _=>⟨Yu _,hp⟩|skip)
   show ej _ _ _ _ _ _ _ _
   refine Ag (ks:=[4,8,46]) (ao:=[(4,.lp 4 bb 0),(8,.lp 1000 b 0),(46,.v (.bool (!decide ((L'.getD 0 default).kind=6))))]) rfl ?_
   rw[lF]
   refine QH rfl (fun hc=> ?_) (fun hc=> ?_)
   ·have hk:(hd L').kind≠6:=by simpa using hc
    refine xe (cfg:=fun _=>0) ?_
    repeat'(first|exact .nil|refine .k2 ?_|refine .r1 ?_ ?_|fail)
    refine se rfl (hW L' dq b ((4,bb,.cells [iv 0,iv 0])::(tx,bx,.cells (vc a))::τ)) .nil (fun x σ' hR=> ?_) (fun ch σ' hR=> ?_)
    ·obtain⟨_,⟨e,_⟩,_⟩:=hR;cases e
    ·obtain⟨cs',⟨e,L2,i',rfl⟩,rfl⟩:=hR
     cases e
     refine aR ?_
     show AG _ _ (.panic _) [] _
     refine⟨(hd L').at_,90,4,0,0,(tx,bx,.cells (vc a))::τ,(1000,b,.cells (bh L2 i'++[]))::(4,bb,.cells [iv 0,iv 0])::(tx,bx,.cells (vc a))::τ,rfl,.refl _,.cons (.refl _),?_⟩
     simp only[if_pos hk]
     exact⟨rfl,rfl⟩
   ·have hk:(hd L').kind=6:=by simpa using hc
    refine QL ?_
    show ej _ _ _ _ _ _ _ _
    refine Ag (ks:=[4]) (ao:=[(4,.lp 4 bb 0)]) rfl ?_
    refine xf (xe (cfg:=fun _=>0) ?_)
    repeat'(first|exact .nil|refine .k0 ?_|refine .k1 ?_|refine .k2 ?_|refine .k3 ?_|refine .r1 ?_ ?_|fail)
    show ej _ _ _ _ _ _ _ _
    refine QK ?_
    refine⟨4,0,0,(tx,bx,.cells (vc a))::τ,_,.refl _,.cons (.refl _),?_⟩
    simp only[hk,ne_eq,not_true_eq_false,Zt]
    exact⟨rfl,rfl⟩
  ·obtain⟨_,e,_⟩:=hR;cases e
theorem xd{P:Program}[Glob P]{N:Nat}{cfg:Nat→Nat}{Q:Exit→ae→Store→Prop}{rg:ae}{σ:Store}{a:AC}(h:WK P N cfg Q a [] rg σ):SW P N a.erase Q rg σ:=h.h.h
def Aq:AC:=match Iw with
 | .seq _ (.keep _ (.seq _ (.keep _ b)))=>b
 |a=>a
theorem C1{P:Program}[Glob P]{N:Nat}{Q:Exit→ae→Store→Prop}{rg ao:ae}{σ:Store}{s:SC}{ks:List Nat}(hk:eY ks rg=ao)(h:SW P N s Q ao σ):SW P N s Q rg σ:=SW.eY ks (hk ▸ h)
theorem azo(hG:ux)(hA:ur){α:Type}(g:List Tok→PR α)(tx bx:Nat)(z:List AV)(vc:α→List AV)(f:Nat)(cap:Array Value)(bJ:gV Tryz.prog f=true)(hf:HS g tx bx z vc f (cap.toList.map .v))
  (src:List UInt8) (nn:Bool) (D7:src.length≤16384→Gd (dh src).1) (τ:Store):
  Sx.Spec Tryz.prog 36 [.sl nn 1 (src.map bn),.v (.func (.func f) #[] cap)] ((tx,bx,.cells z)::τ) (Ic (jq g src) tx bx z vc τ):=by
 refine azm _ rfl _ _ Aq.erase rfl ?_
 refine xd (a:= .cj B1) (cfg:=fun _=>0) ?_
 repeat'(first|refine .k1 ?_|refine .k2 ?_|refine .k3 ?_|(refine .l1 ?_;intro b)|fail)
 rename Nat=>bb
 refine xd (a:= .cj B3) (cfg:=fun _=>0) ?_
 repeat'(first|exact .nil|refine .k2 ?_|refine .r1 ?_ ?_|fail)
 have f1:(!decide ((2:Int)=0))=true:=by decide
 have g1:(!decide ((0:Int)=0))=false:=by decide
 have g2:decide ((0:Int)<((0:Nat):Int))=false:=by decide
 by_cases hl:16384<src.length
 ·refine se rfl (ayI src hl nn _) .nil (fun x σ' hR=> ?_) (fun ch σ' hR=>absurd hR.1 (by nofun))
  obtain⟨e,rfl⟩:=hR
  cases e
  repeat'(first|exact .nil|refine .k1 ?_|refine .k3 ?_|refine .r1 ?_ ?_|fail)
  show SW _ _ _ _ _ _
  refine C1 (ks:=[1,4,5,6,7]) (ao:=[(1,.v (.func (.func f) #[] cap)),(4,.lp 4 bb 0),(5,fE),(6,fE),(7,iv 2)]) rfl ?_
  refine xd (a:=Aq) (cfg:=fun _=>0) ?_
  show WK _ _ _ _ (.block _ _) _ _ _
  repeat'(first|exact .nil|refine .k0 ?_|refine .k1 ?_|refine .k2 ?_|refine .k6 ?_|refine .k7 ?_|(refine .cd ?_ ?_<;>(intro hc;first|exact kf hc (by assumption)|skip))|refine .r1 ?_ ?_|fail)
  refine⟨bb,4,4,0,2,(tx,bx,.cells z)::τ,_,rfl,.refl _,.refl _,?_⟩
  unfold jq
  rw[if_pos hl]
  exact⟨rfl,rfl⟩
 ·refine se rfl (GK hG hA src (by omega) nn _) .nil (fun x σ' hR=> ?_) (fun ch σ' hR=> ?_)
  ·obtain⟨cV,cF,hC,e,rfl⟩:=hR
   cases e
   have hL:=D7 (by omega)
   have hp:=hL.pos
   have g3:decide (((dh src).1.length:Int)=0)=false:=Zp (by omega)
   rcases hC with⟨h0,rfl,rfl⟩|⟨h0,b2,u2,c2,rfl,rfl,_⟩
   ·repeat'(first|exact .nil|refine .k1 ?_|refine .k3 ?_|refine .r1 ?_ ?_|fail)
    show SW _ _ _ _ _ _
    refine C1 (ks:=[1,4,5,6,7]) (ao:=[(1,.v (.func (.func f) #[] cap)),(4,.lp 4 bb 0),(5,.sl false 3 (List.map Tok.cells (dh src).1)),(6,fE),(7,iv 0)]) rfl ?_
    refine xd (a:=Aq) (cfg:=fun _=>0) ?_
    show WK _ _ _ _ (.block _ _) _ _ _
    repeat'(first|exact .nil|refine .k0 ?_|refine .k1 ?_|refine .k2 ?_|refine .k3 ?_|refine .k6 ?_|refine .k9 ?_|(refine .cd ?_ ?_<;>(intro hc;first|exact kt hc (by assumption)|skip))|refine .r1 ?_ ?_|(refine .m2 ?_ ?_;intro hlen)|refine .r8 ?_ ?_|fail)
    have hn:(dh src).2=[]:=YO.1 h0
    refine⟨bb,_,_,4,rfl,rfl,rfl,@azq (qz Tryz.prog [sr 75 bb]) α g tx bx bb z vc f cap τ (dh src).1 hL (jq g src) ?_ bJ (fun L hL b τ=>Spec.toD (wO L hL false b [] τ)) (fun b τ=>Spec.toD (hf _ hL b τ))⟩
    unfold jq
    rw[if_neg hl,hn]
   ·obtain⟨pb,ps,al⟩:∃ pb ps,(dh src).2=pb::ps:=by
     cases hn:(dh src).2 with
     |nil=>rw[hn]at h0;exact absurd rfl h0
     |cons pb ps=>exact⟨pb,ps,rfl⟩
    have nW:0<((dh src).2.length:Int):=by rw[al];simp
    have g4:decide (0<((dh src).2.length:Int))=true:=Zi nW
    repeat'(first|exact .nil|refine .k1 ?_|refine .k3 ?_|refine .r1 ?_ ?_|fail)
    show SW _ _ _ _ _ _
    refine C1 (ks:=[1,4,5,6,7]) (ao:=[(1,.v (.func (.func f) #[] cap)),(4,.lp 4 bb 0),(5,.sl false 3 (List.map Tok.cells (dh src).1)),(6,.own 2 12 b2 u2 c2 ((dh src).2.map dw.cells)),(7,iv 0)]) rfl ?_
    refine xd (a:=Aq) (cfg:=fun _=>0) ?_
    show WK _ _ _ _ (.block _ _) _ _ _
    repeat'(first|exact .nil|refine .k0 ?_|refine .k1 ?_|refine .k2 ?_|refine .k6 ?_|refine .k7 ?_|(refine .cd ?_ ?_<;>(intro hc;first|exact kf hc (by assumption)|exact kt hc (by assumption)|skip))|refine .r1 ?_ ?_|(refine .m2 ?_ ?_;intro hlen)|refine .t1 ?_ ?_ ?_|fail)
    any_goals(first|exact fun _=>⟨Yu _,nW⟩|skip)
    have hd0:(dh src).2.getD (Int.toNat 0) default=pb:=by rw[al];rfl
    simp only[hd0]
    refine⟨bb,4,4,pb.at_,pb.code,(tx,bx,.cells z)::τ,_,rfl,.refl _,.cons (.refl _),?_⟩
    unfold jq
    rw[if_neg hl,al]
    exact⟨rfl,rfl⟩
  ·obtain⟨cV,cF,hC,e,_⟩:=hR;cases e
def zE:List AV:=[iv 0,sv ⟨#[]⟩,sv ⟨#[]⟩,sv ⟨#[]⟩,iv 0,iv 0,sv ⟨#[]⟩,fE,iv 0,iv 0,iv 0,fE]
def xF(x:Ex):List AV:=[iv x.kind,sv x.op,sv x.name,sv x.table,iv x.val.kind,iv x.val.n,sv x.val.s,.sl false 2 (x.unit.map aq.cells),iv x.param,iv x.win.kind,iv x.win.size,.sl false 12 (x.args.map Ex.cells)]
theorem ad7(hN:rZ)(hD:uw)(bx:Nat):HS (bD N0 false) 2 bx zE xF 37 [.v (.pointer (some ⟨bx,0,none⟩))]:=by
 intro L hL b τ
 refine Spec.wk (bs:=[.lp 1000 b 0,.lp 2 bx 0]) ?_ (.cons (.refl _) (.cons .raw .nil))
 have hx:=Wg hN hD false L hL
 cases hg:bD N0 false L with
 |err p c=>
  rw[hg]at hx
  refine Spec.cY (fun _=>0) Tryz.func37 Jr JV (Z8 rfl) ?_
  repeat'(first|exact .nil|refine .k2 ?_|refine .r1 ?_ ?_|fail)
  refine ny rfl rfl rfl (fun cU=>hx b [] cU) .nil (fun x cs' h=> ?_) (fun ch cs' h=> ?_)
  ·obtain⟨e,_⟩:=h;cases e
  ·obtain⟨e,L',i',rfl⟩:=h
   cases e
   refine aR ?_
   rw[aL]
   exact⟨rfl,L',i',rfl⟩
 |ok a L'=>
  rw[hg]at hx
  refine Spec.cY (fun _=>0) Tryz.func37 Jr JV (Z8 rfl) ?_
  unfold zE xF
  repeat'(first|exact .nil|refine .k2 ?_|refine .r1 ?_ ?_|fail)
  refine ny rfl rfl rfl (fun cU=>hx b [] cU) .nil (fun x cs' h=> ?_) (fun ch cs' h=> ?_)
  ·obtain⟨dq,e,rfl⟩:=h
   cases e
   rw[aL]
   repeat'(first|exact .nil|refine .k0 ?_|refine .k1 ?_|refine .k3 ?_|refine .r1 ?_ ?_|refine .r2 ?_ ?_|fail)
   exact⟨dq,rfl,rfl⟩
  ·obtain⟨_,e,_⟩:=h;cases e
def AJ(s:Bs):AV:=if(jq (bD N0 false) s).1.2=0 then .aI [.agg ((jq (bD N0 false) s).2.elim zE xF),iv 0,iv 0]else .aI [.agg zE,iv (jq (bD N0 false) s).1.1,iv (jq (bD N0 false) s).1.2]
theorem Wd(hG:ux)(hA:ur)(hN:rZ)(hD:uw)(src:List UInt8)(nn:Bool)(D7:src.length≤16384→Gd (dh src).1):Pure Tryz.prog 9 [.sl nn 1 (src.map bn)] (AJ src):=by
 refine Pure.cY (fun _=>0) Tryz.func9 UW V7 (Z8 rfl) fun σ=> ?_
 repeat'(first|exact .nil|refine .k0 ?_|refine .k1 ?_|refine .k2 ?_|refine .r1 ?_ ?_|(refine .l1 ?_;intro b)|fail)
 rename Nat=>bx
 have hw:=azo hG hA (bD N0 false) 2 bx zE xF 37 #[.pointer (some ⟨bx,0,none⟩)] rfl (ad7 hN hD bx) src nn D7 σ
 unfold AJ
 obtain⟨r,hr⟩:∃ r,jq (bD N0 false) src=r:=⟨_,rfl⟩
 rw[hr]at hw ⊢
 refine se rfl hw .nil (fun x σ' hR=> ?_) (fun ch σ' hR=> ?_)
 ·obtain⟨e,rfl⟩:=hR
  cases e
  obtain⟨⟨p,c⟩,o⟩:=r
  cases o
  all_goals
   simp only[Option.elim]
   unfold zE
   try unfold xF
   repeat'(first|exact .nil|refine .k0 ?_|refine .k1 ?_|refine .k2 ?_|refine .k3 ?_|refine .k7 ?_|refine .k9 ?_|(refine .cd ?_ ?_<;>(intro hc;skip))|refine .r1 ?_ ?_|(refine .l1 ?_;intro b)|fail)
  all_goals
   first
   |exact Sx.Fin.intro Zs (if_neg (by simpa using hc)).symm
   |exact Sx.Fin.intro Zs (if_pos (by simpa using hc)).symm
 ·obtain⟨e,_⟩:=hR;cases e
theorem wG{k:Int}{x:List UInt8}{at_:Int}(h:x.length≤16384)(h2:k≠2)(h3:k≠3):nw ⟨k,⟨x.toArray⟩,at_⟩:=⟨by show x.toArray.size≤_;simpa using h,fun e=>absurd e h2,fun e=>absurd e h3⟩
theorem ayG{x:List UInt8}{at_:Int}(h:x.length≤16384)(hd:iz x)(he:lL x=0):nw ⟨2,⟨x.toArray⟩,at_⟩:=by
 refine⟨by show x.toArray.size≤_;simpa using h,fun _=> ?_,fun e=>absurd (show(2:Int)=3 from e) (by decide)⟩
 refine⟨by simpa using hd,?_⟩
 unfold lL at he
 split at he
 ·cases he
 ·show b8 x.toArray.toList 0≤_
  simp only[List.toList_toArray]at *
  omega
theorem ayF{a b:List UInt8}{at_:Int}(h:(a++46::b).length≤16384)(ha:iz a)(hb:iz b)(he:jV (a++46::b)=0):nw ⟨3,⟨(a++46::b).toArray⟩,at_⟩:=by
 refine⟨by show(a++46::b).toArray.size≤_;simpa using h,fun e=>absurd (show(3:Int)=2 from e) (by decide),fun _=>⟨a,b,by simp,ha,hb,?_⟩⟩
 have sF:∀ c∈a,(c != 46)=true:=fun c hc=>by
  have:=ha.2 c hc
  simp only[bne_iff_ne,ne_eq]
  intro e;subst e;simp at this
 have e1:(a++46::b).takeWhile (fun b=>b != 46)=a:=by
  rw[List.takeWhile_append_of_pos sF];simp
 have e2:(a++46::b).dropWhile (fun b=>b != 46)=46::b:=by
  rw[List.dropWhile_append_of_pos sF];simp
 unfold jV at he
 simp only[e1,e2,X0,List.drop_zero]at he
 split at he
 ·cases he
 ·split at he
  ·cases he
  ·exact⟨by omega,by omega⟩
theorem aab{l:List UInt8}{b:UInt8}(h:l.head? =some b):l=b::l.drop 1:=by
 cases l with
 |nil=>cases h
 |cons x r=>cases h;rfl
theorem adw{s:List UInt8}(hs:s≠[])(hl:s.length≤16384)(at_:Int)(h0:(ax s).2.2=0)(h1:(ax s).1≠-1)(h2:(ax s).1≠4)(h3:(ax s).1≠0):nw ⟨(ax s).1,⟨(s.take (ax s).2.1).toArray⟩,at_⟩:=by
 obtain⟨c,r,rfl⟩:=List.exists_cons_of_ne_nil hs
 have hle:∀ n,((c::r).take n).length≤16384:=fun n=>by rw[ZT];omega
 by_cases c1:aC c=1
 ·rw[p_1 c1]at h3;exact absurd rfl h3
 by_cases c6:aC c=6
 ·rw[BN c6]at h3;exact absurd rfl h3
 by_cases c2:aC c=2
 ·rw[FR c2];exact wG (hle _) (show(1:Int)≠2 by decide) (show(1:Int)≠3 by decide)
 by_cases c3:aC c=3
 ·have hn:0<aD aO (c::r):=by unfold aD;rw[ZG,if_pos (by unfold aO;exact Zi c3)];simp
  rw[BK c3]at h0 ⊢
  generalize hN:aD aO (c::r)=n at *
  generalize hT:(c::r).drop n=t at *
  generalize hM:aD aO (t.drop 1)=m at *
  have hd:=xC (s:=c::r) (by omega)
  rw[hN]at hd
  split at h0
  ·rename_i hh
   rw[if_pos hh]at⊢
   have ht:=aab hh.1
   have hb:=xC (s:=t.drop 1) (by omega)
   rw[hM]at hb
   have e:(c::r).take (n+1+m)=(c::r).take n++46::(t.drop 1).take m:=by
    conv=>lhs;rw[show n+1+m=n+(1+m) by omega,List.take_add,hT,ht,show 1+m=m+1 by omega,Yl]
   have hl2:=hle (n+1+m)
   simp only at h0 ⊢
   rw[e]at h0 hl2 ⊢
   exact ayF hl2 hd hb h0
  ·rename_i hh
   rw[if_neg hh]
   exact ayG (hle _) hd h0
 by_cases c5:aC c=5
 ·rw[BM c5]at h1 h2;split at h2
  ·exact absurd rfl h2
  ·rename_i hh;rw[if_neg hh]at h1;exact absurd rfl h1
 by_cases c7:aC c=7∨aC c=8
 ·rw[p_7 c7]at h1 ⊢
  split
  ·exact wG (hle _) (by decide) (by decide)
  ·split
   ·exact wG (hle _) (by decide) (by decide)
   ·rename_i a b;rw[if_neg a,if_neg b]at h1;exact absurd rfl h1
 ·rw[FQ ⟨c1,c6,c2,c3,c5,fun e=>c7 (.inl e),fun e=>c7 (.inr e)⟩]at h1;exact absurd rfl h1
theorem Bv:∀ (n:Nat) (at_ st:Int) (s:List UInt8),s.length≤16384→(∀ t∈(cA n at_ st s).1,nw t)∧(cA n at_ st s).1.length≤s.length+1
 |0,at_,st,s,_=>⟨fun t ht=>by
   simp only[cA,Y3]at ht
   subst ht;exact wG (x:=[]) (by simp) (by decide) (by decide),by simp[cA]⟩
 |n+1,at_,st,[],_=>⟨fun t ht=>by
   rw[lex_nil]at ht
   simp only[Y3]at ht
   subst ht;exact wG (x:=[]) (by simp) (by decide) (by decide),by rw[lex_nil];simp⟩
 |n+1,at_,st,c::r,hl=>by
  have hs:c::r≠[]:=by simp
  have qJ:=BQ hs
  have hk:=adw hs hl at_
  rw[om n at_ st hs]
  generalize Bj:c::r=s at *
  generalize ax s=p at *
  have hd:∀ k,(s.drop k).length≤16384:=fun k=>by rw[Zx];omega
  have i1:=Bv n (at_+1) at_ (s.drop 1) (hd 1)
  have i2:=Bv n (at_+p.2.1) st (s.drop p.2.1) (hd _)
  have l1:(s.drop 1).length+1≤s.length:=by rw[Zx];omega
  have l2:(s.drop p.2.1).length+1≤s.length:=by rw[Zx];omega
  split
  ·exact⟨i1.1,by have:=i1.2;simp only;omega⟩
  ·split
   ·exact⟨i2.1,by have:=i2.2;simp only;omega⟩
   ·split
    ·refine⟨fun t ht=> ?_,by have:=i2.2;simp only[Z9];omega⟩
     rcases ZV.1 ht with rfl|ht
     ·exact wG (by simp only[Zx,ZT];omega) (by decide) (by decide)
     ·exact i2.1 t ht
    ·split
     ·refine⟨fun t ht=> ?_,by have:=i2.2;simp only[Z9];omega⟩
      rcases ZV.1 ht with rfl|ht
      ·rename_i a b c d
       exact hk (by simpa using b) a c d
      ·exact i2.1 t ht
     ·exact⟨i2.1,by have:=i2.2;omega⟩
theorem ayL{s:List UInt8}(hl:s.length≤16384):Gd (dh s).1:=
 ⟨vI _ _ _ _,(Bv _ _ _ s hl).1,by have:=(Bv s.length 0 (-1) s hl).2;show(cA s.length 0 (-1) s).1.length≤_;omega⟩
end Go.Proofs.YtbihckigennlhaaGreatDoor
